/- Own texts for the seat: Fr1 Ra2 Rp1 Fr3 Fr4 Fr5 Rp2 Ft0 Ft1 Sn1 Sn2 Fn1 Fp1 Fn2 Sq2 Fk0 Fk1 Ft2 Fp2 Fp3. -/
import Derived.Test.YtjdleeamgmkbkaaGreatB6
import Derived.Test.YtjdleeamgmkbkaaGreatB3
set_option linter.unusedVariables false
set_option linter.unusedSimpArgs false
set_option linter.unnecessarySimpa false
set_option linter.deprecated false
namespace Go.Gb
open Go.Proofs IntWalk
section
variable {h : Heap} {Q : QT} {p : FPl}
theorem K44.c {r : Nat} (o : p.rt) (hr : r ≤ 16) (hq : Q (ringV (p.plan r)) h) : CT 44 #[fcfgV p, .int .i64 (r : Int)] h Q := by
 have hz := FPl.z_le o
 have l1 := o.l1
 have l2 := o.l2
 have s2 := o.s2
 have hb : RpB ⟨0, p.pl, p.ps, p.psi⟩ 2000 := ⟨o.l1, o.l2, o.q1, o.q2, ⟨by show 1 ≤ p.pl + 2; omega, by show p.pl + 2 ≤ 1026; omega, s2, by show 0 ≤ 8192; omega, by show 0 + p.z ≤ 2000; omega⟩⟩
 have hm : r * p.z ≤ 16 * 1098 := Nat.mul_le_mul hr hz
 apply K44.ok
 refine K106.c (p := ⟨0, p.pl, p.ps, p.psi⟩) hb ⟨_, _, _, rfl, K107.c (p := RPl.bk ⟨0, p.pl, p.ps, p.psi⟩) hb.ok.b ⟨_, rfl, ?_⟩⟩
 rw [show sizeN (RPl.bk ⟨0, p.pl, p.ps, p.psi⟩) = p.z from rfl, show (r : Int) * ((p.z : Nat) : Int) = ((r * p.z : Nat) : Int) by rw [Int.natCast_mul], i64_in ((r * p.z : Nat) : Int) (by omega), i64_in _ (by omega), show (1 : Int) + ((r * p.z : Nat) : Int) = ((1 + r * p.z : Nat) : Int) by omega]
 exact hq
theorem K33.c (o : p.rt) (hq : Q (.int .i64 ((1 + p.R * p.z : Nat) : Int)) h) : CT 33 #[fcfgV p] h Q := by
 apply K33.ok
 exact K44.c (r := p.R) o o.r2 ⟨_, _, _, _, rfl, hq⟩
theorem K95.any {l s q : Int} (hq : Q (.int .i64 (if 1 ≤ l ∧ l ≤ 1024 ∧ 0 ≤ s ∧ s ≤ 64 ∧ 1 ≤ q ∧ q ≤ 65535 then 0 else 2)) h) : CT 95 #[.agg #[.int .i64 0, .int .i64 l, .int .i64 s, .int .i64 q], .int .i64 1000000] h Q := by
 apply K95.ok
 refine xsIf_intro (fun e => ?_) fun e1 => xsIf_intro (fun e => ?_) fun e2 => xsIf_intro (fun e => ?_) fun e3 => xsIf_intro (fun e => ?_) fun e4 => ?_
 ·rw [if_neg (by have := of_decide_eq_true e; omega)] at hq; exact hq
 ·rw [if_neg (by have := of_decide_eq_true e; omega)] at hq; exact hq
 ·rw [if_neg (by have := of_decide_eq_true e; omega)] at hq; exact hq
 ·rw [if_neg (by have := of_decide_eq_true e; omega)] at hq; exact hq
 ·have e1 := of_decide_eq_false e1
  have e2 := of_decide_eq_false e2
  have e3 := of_decide_eq_false e3
  have e4 := of_decide_eq_false e4
  apply K106.ok
  refine ⟨_, _, _, rfl, K168.c ⟨_, rfl, ?_⟩⟩
  rw [i64_in (l + 2) (by omega)]
  unfold checkI
  by_cases hs : 0 ≤ s ∧ s ≤ 64
  ·rw [if_pos (by omega)] at hq
   have hz : (sizeN (plI 0 (l + 2) s) : Nat) ≤ 1098 := by unfold plI sizeN tblN; dsimp only; omega
   rw [if_pos (show rightI 0 (l + 2) s by unfold rightI; omega), if_neg (by omega)]
   exact hq
  ·rw [if_neg (by omega)] at hq
   rw [if_neg (show ¬ rightI 0 (l + 2) s by unfold rightI; omega)]
   exact hq
theorem K32.any {n : Int} (o : p.rt) (hq : Q (.int .i64 (if n < ((1 + p.R * p.z : Nat) : Int) then 3 else 0)) h) : CT 32 #[fcfgV p, .int .i64 n] h Q := by
 have hr := o.right
 unfold rightF at hr
 apply K32.ok
 refine K95.any ⟨_, rfl, ?_⟩
 rw [if_pos (by omega)]
 refine xsIf_f rfl (xsIf_f (decide_eq_false (by omega)) (xsIf_f (decide_eq_false (by omega)) (K33.c o ⟨_, rfl, xsIf_intro (fun e => ?_) fun e => ?_⟩)))
 ·rw [if_pos (of_decide_eq_true e)] at hq; exact hq
 ·rw [if_neg (of_decide_eq_false e)] at hq; exact hq
end
end Go.Gb
namespace Go.Gb
open Go.Proofs IntWalk
end Go.Gb
namespace Go.Gb
open Go.Proofs IntWalk
def StR (p : RPl) (x : RS) : Prop := RgI p x ∨ (x.s.off = true ∧ PmOk x.s ∧ ∀ ks, ∃ l' g', RgI p ⟨pboot x.s ks, l', g', 0⟩)
theorem StR.ok {p : RPl} {x : RS} (t : StR p x) : PmOk x.s := by
 rcases t with t | t
 ·exact t.sp.w
 ·exact t.2.1
theorem ROut.st {p : RPl} {i : Nat} {B : ByteArray} {rd0 : Nat → ByteArray} {M : ByteArray → Prop} {r : Int × RS} (o : ROut p i B rd0 M r) : StR p r.2 := by
 rcases o with o | o | ⟨_, e, w, m⟩
 ·exact .inl o.2.1
 ·exact .inl o.2.1
 ·exact .inr ⟨e, w, fun ks => by obtain ⟨l', g', w', _⟩ := m ks; exact ⟨l', g', w'⟩⟩
end Go.Gb
namespace Go.Gb
open Go.Proofs IntWalk
section
variable {M : Nat → Prop} {h h1 : Heap} {m : Nat} {p : FPl} {Q : QT}
theorem K99.c (o : p.fit) (hq : ∀ h', Part h h' → Q (.string (headB p)) h') : CT 99 #[fcfgV p] h Q := by
 have o1 := o.R
 have o2 := o.pl
 have o3 := o.ps
 have o4 := o.psi
 apply K99.ok
 intro b hb
 have k := Blk.new h b #[.int .i64 p.R, .int .i64 p.pl, .int .i64 p.ps, .int .i64 p.psi] 3
 have pt : Part h (upd h b (Obj.cells #[.int .i64 p.R, .int .i64 p.pl, .int .i64 p.ps, .int .i64 p.psi] 3 (0, 0))) := Part.upd hb _
 generalize upd h b (Obj.cells #[.int .i64 p.R, .int .i64 p.pl, .int .i64 p.ps, .int .i64 p.psi] 3 (0, 0)) = h1 at k pt
 have c2 : cnt 2 = 2 := by decide
 have c4 : cnt 4 = 4 := by decide
 have sz : ∀ l : List UInt8, (⟨l.toArray⟩ : ByteArray).size = l.length := fun l => List.size_toArray
 have e1 : (⟨#[UInt8.ofNat 103, UInt8.ofNat 97, UInt8.ofNat 98, UInt8.ofNat 105, UInt8.ofNat 111, UInt8.ofNat 110, UInt8.ofNat 48, UInt8.ofNat 49]⟩ : ByteArray) = ⟨magicL.toArray⟩ := rfl
 rw [e1]
 have m8 : magicL.length = 8 := rfl
 have w0 : IntKind.u64.wrap ((p.R : Nat) : Int) = ((p.R : Nat) : Int) := u64_nat' (by omega)
 have w1 : IntKind.u64.wrap ((p.pl : Nat) : Int) = ((p.pl : Nat) : Int) := u64_nat' (by omega)
 have w2 : IntKind.u64.wrap ((p.ps : Nat) : Int) = ((p.ps : Nat) : Int) := u64_nat' (by omega)
 have w3 : IntKind.u64.wrap ((p.psi : Nat) : Int) = ((p.psi : Nat) : Int) := u64_nat' (by omega)
 apply K99.L4.ok
 refine xsIf_t rfl ⟨by omega, b, 0, rfl, _, k.cell 0, ?_⟩
 rw [w0]
 refine K174.c (by omega) ⟨_, rfl, ?_⟩
 rw [c2, toL_append]
 refine ⟨by rw [sz, sz, putL_length, m8]; omega, ?_⟩
 apply K99.L4.ok
 refine xsIf_t rfl ⟨by constructor <;> decide, b, 0, rfl, _, k.cell 1, ?_⟩
 rw [w1]
 refine K174.c (by omega) ⟨_, rfl, ?_⟩
 rw [c2, toL_append]
 refine ⟨by rw [sz, sz, List.length_append, putL_length, putL_length, m8]; omega, ?_⟩
 apply K99.L4.ok
 refine xsIf_t rfl ⟨by constructor <;> decide, b, 0, rfl, _, k.cell 2, ?_⟩
 rw [w2]
 refine K174.c (by omega) ⟨_, rfl, ?_⟩
 rw [c2, toL_append]
 refine ⟨by rw [sz, sz, List.length_append, List.length_append, putL_length, putL_length, putL_length, m8]; omega, ?_⟩
 apply K99.L4.ok
 refine xsIf_t rfl ⟨by constructor <;> decide, b, 0, rfl, _, k.cell 3, ?_⟩
 rw [w3]
 refine K174.c (by omega) ⟨_, rfl, ?_⟩
 rw [c2, toL_append]
 refine ⟨by rw [sz, sz, List.length_append, List.length_append, List.length_append, putL_length, putL_length, putL_length, putL_length, m8]; omega, ?_⟩
 apply K99.L4.ok
 refine xsIf_f rfl (K174.c o.k ⟨_, rfl, ?_⟩)
 rw [cnt8, toL_append]
 generalize hX : magicL ++ putL p.R 2 ++ putL p.pl 2 ++ putL p.ps 2 ++ putL p.psi 2 ++ putL p.key 8 = X
 have lX : X.length = 24 := by rw [← hX, List.length_append, List.length_append, List.length_append, List.length_append, List.length_append, putL_length, putL_length, putL_length, putL_length, putL_length, m8]
 refine ⟨by rw [sz, sz, putL_length]; rw [← hX] at lX; simp only [List.length_append, putL_length, m8] at lX ⊢; omega, ?_⟩
 have loop : ∀ (j k : Nat), k + j = 36 → K99.L10 ⟨(X ++ List.replicate k 0).toArray⟩ h1 Q := by
  intro j
  induction j with
  | zero =>
   intro k hk
   apply K99.L10.ok
   have hk : k = 36 := by omega
   subst hk
   have e3 : X ++ List.replicate 36 0 = headL p := by rw [← hX]; rfl
   rw [e3]
   refine xsIf_f (decide_eq_false (by rw [sz, headL_length]; omega)) (K175.c (by rw [sz, headL_length]; omega) fun h2 p2 => ⟨_, rfl, ?_⟩)
   have hs := sum32_lt (headL p)
   rw [show (⟨(headL p).toArray⟩ : ByteArray).data.toList = headL p from rfl]
   refine K174.c (by omega) ⟨_, rfl, ?_⟩
   rw [c4, toL_append]
   exact ⟨by rw [sz, sz, headL_length, putL_length]; omega, hq h2 (pt.trans p2)⟩
  | succ j ih =>
   intro k hk
   apply K99.L10.ok
   refine xsIf_t (decide_eq_true (by rw [sz, List.length_append, lX, List.length_replicate]; omega)) ⟨by rw [sz, List.length_append, lX, List.length_replicate]; omega, ?_⟩
   have e : ((⟨(X ++ List.replicate k 0).toArray⟩ : ByteArray) ++ (⟨#[UInt8.ofNat 0]⟩ : ByteArray)) = ⟨(X ++ List.replicate (k + 1) 0).toArray⟩ := by
    rw [show (⟨#[UInt8.ofNat 0]⟩ : ByteArray) = ⟨([0] : List UInt8).toArray⟩ from rfl, toL_append, List.replicate_succ', List.append_assoc]
   rw [e]
   exact ih (k + 1) (by omega)
 have := loop 36 0 (by omega)
 rw [List.replicate_zero, List.append_nil] at this
 exact this
theorem K98.g {p : RPl} {s : PmS} (w : RfD M h m s) (lv : Live M h) (hb : RpB p s.nl) (o : On s) (pm : PmOk s) (nb : Nb s)
  (hq : ∀ h', RfD M h' m (rfmt p s).2 → Step M h M h' → Q (.int .i64 (rfmt p s).1) h') : CT 98 #[.pointer (some ⟨m, 0, none⟩), ringV p] h Q := by
 have l1 := hb.l1
 have l2 := hb.l2
 have ok := Gp.first_ok l1 l2
 have sp0 := sformat_sp hb.ok o pm nb
 have w0 := w
 obtain ⟨wb, rb, bb, q, w⟩ := w
 apply K98.ok
 refine ⟨m, 0, rfl, _, _, _, w.c1, K95.c hb ⟨_, rfl, xsIf_f rfl (K106.c hb ⟨_, _, _, rfl, K171.c (p := p.bk) w0 lv hb.ok fun h1 w1 st1 => ⟨_, rfl, ?_⟩⟩)⟩⟩
 unfold rfmt at hq
 generalize sformat p.bk s = a at w1 sp0 hq ⊢
 by_cases h0 : a.1 = 0
 ·rw [if_pos h0] at hq
  have sp := (sp0 h0).1
  refine xsIf_f (decide_eq_false (fun h => h h0)) (K172.c (by omega) (by omega) ⟨_, rfl, ?_⟩)
  have epk : pk 0 (p.pl : Int) 0 = (((Gp.first p.pl).pk : Nat) : Int) := (Gp.pk_int _ ok.l ok.h).symm
  rw [epk, show IntKind.i64.wrap ((p.pl : Int) + 1) = ((p.pl + 1 : Nat) : Int) by rw [i64_in _ (by omega)]; omega]
  refine K173.c (p := p.bk) (k := 0) w1 (st1.dom lv) sp (Gp.pk_lt ok) fun h2 w2 st2 => ⟨_, rfl, ?_⟩
  have e2 : sWriteWord p.bk [] a.2 ((p.pl + 1 : Nat) : Int) 0 (Gp.first p.pl).pk = swritew p.bk [] a.2 (p.pl + 1) 0 (Gp.first p.pl).pk := sWriteWord_eq (k := 0) (by rw [bk_pl]; omega) (by omega)
  rw [e2] at w2 ⊢
  exact hq h2 w2 (st1.trans st2)
 ·rw [if_neg h0] at hq
  exact xsIf_t (decide_eq_true h0) (hq h1 w1 st1)
theorem K39.fin {s : PmS} (ok : p.ok s.nl) (w : RfD M h m s) (lv : Live M h) (o : On s) (pm : PmOk s) (hq : ∀ h', RfD M h' m (fhead p s).2 → Step M h M h' → Q (.int .i64 (fhead p s).1) h') :
  CT 99 #[fcfgV p] h fun (r : Value) (h' : Heap) => ∃ (x : ByteArray), r = .string x ∧ CT 97 #[.pointer (some ⟨m, 0, none⟩), .int .i64 0, .string x] h' fun (r : Value) (h' : Heap) => ∃ (x_1 : Int), r = .int .i64 x_1 ∧
   xsIf (decide (x_1 ≠ 0)) (Q (.int .i64 x_1) h') (CT 100 #[.pointer (some ⟨m, 0, none⟩), .int .i64 0] h' fun (r : Value) (h' : Heap) => ∃ (x_2 : ByteArray), r = .string x_2 ∧ xsIf (decide (x_2 ≠ x)) (Q (.int .i64 10) h') (Q (.int .i64 0) h')) := by
 have hnl : 0 < s.nl := by have := ok.fit; omega
 refine K99.c ok.rt.fit fun h1 p1 => ⟨_, rfl, ?_⟩
 have w1 : RfD M h1 m s := w.keep fun _ _ hk => part_live p1 hk
 have st1 : Step M h M h1 := Step.of_part p1
 refine K97.c (a := ((0 : Nat) : Int)) w1 (st1.dom lv) fun h2 w2 st2 => ⟨_, rfl, ?_⟩
 have st := st1.trans st2
 have p1 : PmOk (lnput s ((0 : Nat) : Int) (headB p)).2 := pm.put _ _
 have n1 : (lnput s ((0 : Nat) : Int) (headB p)).2.nl = s.nl := lnput_nl _ _ _
 unfold fhead at hq
 generalize lnput s ((0 : Nat) : Int) (headB p) = q at w2 hq p1 n1 ⊢
 by_cases h0 : q.1 = 0
 ·rw [if_pos h0] at hq
  refine xsIf_f (decide_eq_false (fun h => h h0)) (K100.c (n := 0) w2 p1 (by omega) ⟨_, rfl, xsIf_intro (fun e => ?_) fun e => ?_⟩)
  ·rw [if_neg (fun t => of_decide_eq_true e ((media_took p1 (by omega) (headB_size p)).2 t))] at hq
   exact hq h2 w2 st
  ·have e := of_decide_eq_false e
   rw [if_pos ((media_took p1 (by omega) (headB_size p)).1 (Classical.byContradiction e))] at hq
   exact hq h2 w2 st
 ·rw [if_neg h0] at hq
  exact xsIf_t (decide_eq_true h0) (hq h2 w2 st)
theorem K39.L7.c : ∀ (j k : Nat) (h : Heap) (s : PmS), k + j = p.R → p.ok s.nl → RfD M h m s → Live M h → On s → PmOk s → Nb s → (∀ h', RfD M h' m (fmkL p j k s).2 → Step M h M h' → Q (.int .i64 (fmkL p j k s).1) h') →
  K39.L7 (some ⟨m, 0, none⟩) 0 (k : Int) p.R p.pl p.ps p.psi p.key h Q := by
 intro j
 induction j with
 | zero =>
  intro k h s hk ok w lv o pm nb hq
  apply K39.L7.ok
  exact xsIf_f (decide_eq_false (by omega)) (xsIf_f rfl (K39.fin ok w lv o pm hq))
 | succ j ih =>
  intro k h s hk ok w lv o pm nb hq
  have hkR : k < p.R := by omega
  have r2 := ok.r2
  have rp := ok.plan hkR
  apply K39.L7.ok
  refine xsIf_t (decide_eq_true (by omega)) (xsIf_t rfl ?_)
  apply K39.J9.ok
  refine K44.c (r := k) ok.rt (by omega) ⟨_, _, _, _, rfl, K98.g (p := p.plan k) w lv rp o pm nb fun h1 w1 st1 => ⟨_, rfl, ?_⟩⟩
  obtain ⟨x, pm', _, r⟩ := rfmt_out rp o pm nb
  have n1 := x.nl
  have nb1 := x.nb nb
  unfold fmkL at hq
  generalize rfmt (p.plan k) s = a at w1 hq pm' r n1 nb1 ⊢
  rw [show IntKind.i64.wrap ((k : Int) + 1) = ((k + 1 : Nat) : Int) by rw [i64_in _ (by omega)]; omega]
  by_cases e : a.1 = 0
  ·rw [if_pos e] at hq
   have on1 : On a.2 := by
    rcases r with r | r
    ·exact r.2.1.sp.on
    ·rw [e] at r; cases r.1
   rw [e]
   exact ih (k + 1) h1 a.2 (by omega) (by rw [n1]; exact ok) w1 (st1.dom lv) on1 pm' nb1 fun h2 w2 st2 => hq h2 w2 (st1.trans st2)
  ·rw [if_neg e] at hq
   apply K39.L7.ok
   refine xsIf_intro (fun _ => xsIf_f (decide_eq_false e) (xsIf_t (decide_eq_true e) (hq h1 w1 st1))) fun _ => xsIf_t (decide_eq_true e) (hq h1 w1 st1)
theorem K39.c {s : PmS} (w : RfD M h m s) (lv : Live M h) (ok : p.ok s.nl) (o : On s) (pm : PmOk s) (nb : Nb s) (hq : ∀ h', RfD M h' m (fmake p s).2 → Step M h M h' → Q (.int .i64 (fmake p s).1) h') :
  CT 39 #[.pointer (some ⟨m, 0, none⟩), fcfgV p] h Q := by
 have hnl : 0 < s.nl := by have := ok.fit; omega
 have fit := ok.fit
 have w0 := w
 obtain ⟨wb, rb, bb, q, w⟩ := w
 apply K39.ok
 refine ⟨m, 0, rfl, _, _, _, w.c1, K32.any ok.rt ⟨_, rfl, ?_⟩⟩
 rw [if_neg (by omega)]
 refine xsIf_f rfl (xsMk_i (by omega) (by omega) (by rw [show cellBytes Tryz.prog 5 = 1 by kernel_rfl]; omega) fun b hbn => ?_)
 have zz : zeros Tryz.prog 5 (64 : Int).toNat = byteVals (List.replicate 64 (0 : UInt8)) := by
  rw [zeros_row (z := .int .u8 0) (by kernel_rfl)]
  rfl
 rw [zz]
 refine ⟨List.replicate 64 0, rfl, readsAt_new 5 _, ?_⟩
 rw [zero64_eq]
 have st0 : Step M h M (upd h b (Obj.cells (byteVals (List.replicate 64 (0 : UInt8))).toArray 5 (0, 0))) := Step.lost hbn _
 have nF : ¬ M b := fun hf => lv b hf hbn
 have w1 : RfD M (upd h b (Obj.cells (byteVals (List.replicate 64 (0 : UInt8))).toArray 5 (0, 0))) m s := w0.keep fun k hk _ => upd_ne fun e => nF (e ▸ hk)
 generalize upd h b (Obj.cells (byteVals (List.replicate 64 (0 : UInt8))).toArray 5 (0, 0)) = h1 at st0 w1
 refine K97.c (a := ((0 : Nat) : Int)) (b := zero64) w1 (st0.dom lv) fun h2 w2 st2 => ⟨_, rfl, ?_⟩
 have st := st0.trans st2
 have x := o.put_fx (b := zero64) hnl zero64_size (lo := 0) (hi := 1) (by omega) (by omega)
 have o1 := fun h0 => (o.put0 (b := zero64) hnl zero64_size h0).1
 have p1 : PmOk (lnput s (0 : Nat) zero64).2 := pm.put _ _
 have n1 := x.nl
 have nb1 := x.nb nb
 unfold fmake at hq
 generalize lnput s ((0 : Nat) : Int) zero64 = q at w2 hq o1 p1 n1 nb1 ⊢
 by_cases h0 : q.1 = 0
 ·rw [if_pos h0] at hq
  rw [h0]
  exact K39.L7.c p.R 0 h2 q.2 (by omega) (by rw [n1]; exact ok) w2 (st.dom lv) (o1 h0) p1 nb1 fun h3 w3 st3 => hq h3 w3 (st.trans st3)
 ·rw [if_neg h0] at hq
  apply K39.L7.ok
  refine xsIf_intro (fun _ => xsIf_f (decide_eq_false h0) (xsIf_t (decide_eq_true h0) (hq h2 w2 st))) fun _ => xsIf_t (decide_eq_true h0) (hq h2 w2 st)
end
end Go.Gb
namespace Go.Gb
open Go.Proofs IntWalk
abbrev MQ (M : Nat → Prop) (qs : Nat → Nat) (R : Nat) : Nat → Prop := fun i => M i ∨ ∃ k, k < R ∧ i = qs k
structure QD (M : Nat → Prop) (qs : Nat → Nat) (hc h : Heap) (m q : Nat) (p : FPl) (x : FS) : Prop where
 rf : RfD M h m x.s
 lm : Live M h
 rg : ∀ k, k < p.R → Blk h (qs k) (refCs (p.plan k) (x.n k)) ∧ ¬ M (qs k)
 ne : ∀ j k, j < p.R → k < p.R → qs j = qs k → j = k
 cb : ∃ a c, Blk hc q (fcfgCs p ++ [.slice a p.R c]) ∧ readsAt hc a (ptrsOf qs p.R)
 cp : Part hc h
 cf : ∀ i, hc i ≠ none → ¬ MQ M qs p.R i
section
variable {M : Nat → Prop} {qs : Nat → Nat} {hc h h1 : Heap} {m q : Nat} {p : FPl} {x x' : FS} {Q : QT}
theorem QD.region (w : QD M qs hc h m q p x) {k : Nat} (hk : k < p.R) : RR M h m (qs k) (p.plan k) (x.at k) := ⟨w.rf, w.lm, (w.rg k hk).1, (w.rg k hk).2⟩
theorem QD.sub {k : Nat} (hk : k < p.R) : ∀ i, MR M (qs k) i → MQ M qs p.R i := fun i hi => hi.imp id fun e => ⟨k, hk, e⟩
theorem QD.live (w : QD M qs hc h m q p x) : Live (MQ M qs p.R) h := fun i hi => by
 rcases hi with hi | ⟨k, hk, rfl⟩
 ·exact w.lm i hi
 ·exact (w.rg k hk).1.ne
theorem QD.set (w : QD M qs hc h m q p x) {k : Nat} (hk : k < p.R) {y : RS} (r : RR M h1 m (qs k) (p.plan k) y) (st : Step (MR M (qs k)) h (MR M (qs k)) h1) : QD M qs hc h1 m q p (x.set k y) ∧ Step (MQ M qs p.R) h (MQ M qs p.R) h1 := by
 refine ⟨⟨r.rf, r.lm, fun j hj => ?_, w.ne, w.cb, st.part w.cp fun i hi hf => w.cf i hi (QD.sub hk i hf), w.cf⟩, st.wide (QD.sub hk)⟩
 by_cases e : j = k
 ·subst e
  refine ⟨?_, (w.rg j hj).2⟩
  have e : (x.set j y).n j = y.n := by unfold FS.set fset; simp only [if_true]
  rw [e]; exact r.qc
 ·have e2 : (x.set k y).n j = x.n j := by unfold FS.set fset; simp only [if_neg e]
  obtain ⟨b, nm⟩ := w.rg j hj
  rw [e2]
  refine ⟨b.keep (st.keep _ (fun hf => ?_) b.ne), nm⟩
  rcases hf with hf | hf
  ·exact nm hf
  ·exact e (w.ne j k hj hk hf)
theorem QD.part (w : QD M qs hc h m q p x) (pt : Part h h1) : QD M qs hc h1 m q p x :=
 ⟨w.rf.keep fun _ _ hk => part_live pt hk, (Step.of_part pt).dom w.lm, fun k hk => ⟨(w.rg k hk).1.keep (part_live pt (w.rg k hk).1.ne), (w.rg k hk).2⟩, w.ne, w.cb, w.cp.trans pt, w.cf⟩
theorem QD.keep (w : QD M qs hc h m q p x) (e : ∀ i, MQ M qs p.R i → h i ≠ none → h1 i = h i) (cp : Part hc h1) : QD M qs hc h1 m q p x :=
 ⟨w.rf.keep fun i hi hn => e i (.inl hi) hn, fun i hi => by rw [e i (.inl hi) (w.lm i hi)]; exact w.lm i hi, fun k hk => ⟨(w.rg k hk).1.keep (e _ (.inr ⟨k, hk, rfl⟩) (w.rg k hk).1.ne), (w.rg k hk).2⟩, w.ne, w.cb, cp, w.cf⟩
theorem QD.dev {s' : PmS} (w : QD M qs hc h m q p x) (w1 : RfD M h1 m s') (st : Step M h M h1) : QD M qs hc h1 m q p ⟨s', x.l, x.g, x.n⟩ ∧ Step (MQ M qs p.R) h (MQ M qs p.R) h1 :=
 ⟨⟨w1, st.dom w.lm, fun k hk => ⟨(w.rg k hk).1.keep (st.keep _ (w.rg k hk).2 (w.rg k hk).1.ne), (w.rg k hk).2⟩, w.ne, w.cb, st.part w.cp fun i hi hf => w.cf i hi (.inl hf), w.cf⟩, st.wide fun k hk => .inl hk⟩
theorem QD.cell (w : QD M qs hc h m q p x) : ∃ a c, h.cell q (0 + 0 + 0) = some (.int .i64 p.R) ∧ h.cell q (0 + 0 + 1) = some (.int .i64 p.pl) ∧ h.cell q (0 + 0 + 1 + 1) = some (.int .i64 p.ps) ∧ h.cell q (0 + 0 + 1 + 1 + 1) = some (.int .i64 p.psi) ∧ h.cell q (0 + 0 + 4) = some (.int .u64 p.key) ∧
  h.cell q (0 + 5) = some (.slice a p.R c) ∧ readsAt h a (ptrsOf qs p.R) := by
 obtain ⟨a, c, b, r⟩ := w.cb
 have b' := b.keep (part_live w.cp b.ne)
 exact ⟨a, c, b'.cell 0, b'.cell 1, b'.cell 2, b'.cell 3, b'.cell 4, b'.cell 5, readsAt_part r w.cp⟩
theorem K103.c {l : Nat} (w : QD M qs hc h m q p x) {n : Nat} (ok : p.ok n) (hl : l < p.R * p.pl) (hq : Q (.tuple #[.pointer (some ⟨qs (p.reg l), 0, none⟩), .int .i64 (p.pos l : Nat)]) h) :
  CT 103 #[.pointer (some ⟨q, 0, none⟩), .int .i64 (l : Int)] h Q := by
 obtain ⟨a, c, e0, e1, e2, e3, e4, e5, r⟩ := w.cell
 have l1 := ok.l1
 have l2 := ok.l2
 have hm : p.R * p.pl ≤ 16 * 1024 := Nat.mul_le_mul ok.r2 ok.l2
 obtain ⟨hr, hp⟩ := FPl.at_line ok hl
 have go := feiN_goes (p.kk (p.reg l)) (m := p.pl) (by omega) (i := l % p.pl) (Nat.mod_lt _ (by omega))
 have ei : irem ((l : Nat) : Int) (p.pl : Int) = ((l % p.pl : Nat) : Int) := irem_nat l p.pl
 have eq : iquo .i64 ((l : Nat) : Int) (p.pl : Int) = ((p.reg l : Nat) : Int) := by
  rw [iquo_i64 (by omega) (by omega) (by omega), show (l : Int) / (p.pl : Int) = ((l / p.pl : Nat) : Int) from rfl]; rfl
 have hpos : p.pos l = feiN p.pl (p.kk (p.reg l)) (l % p.pl) := rfl
 have hkey := ok.k
 have r2 := ok.r2
 rw [hpos] at hq
 apply K103.ok
 refine ⟨q, 0, rfl, _, e1, by omega, q, 0, rfl, q, 0, rfl, q, 0, rfl, ?_⟩
 rw [eq]
 generalize p.reg l = k at *
 have ek : IntKind.u64.wrap ((p.key : Int) + IntKind.u64.wrap ((k : Nat) : Int)) = ((p.kk k : Nat) : Int) := by
  rw [u64_nat' (show k < 18446744073709551616 by omega), show ((p.key : Nat) : Int) + ((k : Nat) : Int) = ((p.key + k : Nat) : Int) by omega, u64_nat]; rfl
 have To : ∀ {Q : QT}, Q (.int .i64 (feiN p.pl (p.kk k) (l % p.pl) : Nat)) h → CT 177 #[.int .i64 p.pl, .int .u64 (IntKind.u64.wrap ((p.key : Int) + IntKind.u64.wrap ((k : Nat) : Int))), .int .i64 (irem ((l : Nat) : Int) (p.pl : Int))] h Q := fun hq => by
  rw [ek, ei]
  exact K177.c (by omega) (Nat.mod_lt _ (by omega)) (Nat.mod_lt _ (by omega)) go hq
 have kb : (0 : Int) ≤ (k : Int) ∧ (k : Int) < (p.R : Int) := by omega
 have base : ∀ K : Nat → Nat → Prop, (∀ b o, h.cell b (o + k * 1) = some (.pointer (some ⟨qs k, 0, none⟩)) → K b o) → atBase a K := fun K hK => reads_base r (by unfold ptrsOf; simp; omega) fun b1 o1 hc1 => by
  have := hc1 k (by unfold ptrsOf; simp; omega)
  unfold ptrsOf at this
  rw [range_ptr hr] at this
  exact hK b1 o1 this
 have fin : ∀ {Q' : QT}, (∀ v, Q v h → Q' v h) → True := fun _ => trivial
 have nz : (p.pl : Int) ≠ 0 := by omega
 have tail : (fun (r : Value) (h' : Heap) => ∃ (x_4 : Int), r = .int .i64 x_4 ∧ atBase (some ⟨q, 0, none⟩) fun (b o : Nat) => ∃ (x_5 : Option Addr), ∃ (n : Nat), ∃ (m : Nat), h'.cell b (o + 5) = some (.slice x_5 n m) ∧ (0 ≤ (k : Int) ∧ (k : Int) < (n : Int)) ∧ atBase x_5 fun (b o : Nat) => ∃ (x_6 : Option Addr), h'.cell b (o + (k : Int).toNat * 1) = some (.pointer x_6) ∧ Q (.tuple #[.pointer x_6, .int .i64 x_4]) h')
   (.int .i64 (feiN p.pl (p.kk k) (l % p.pl) : Nat)) h := ⟨_, rfl, q, 0, rfl, _, _, _, e5, kb, by rw [Int.toNat_natCast]; exact base _ fun b1 o1 hc1 => ⟨_, hc1, hq⟩⟩
 exact ⟨⟨_, e1, ⟨_, e4, _, e1, nz, To tail⟩, _, e1, nz, _, e4, To tail⟩, ⟨_, e4, _, e1, nz, _, e1, To tail⟩, _, e1, nz, _, e4, _, e1, To tail⟩
theorem K47.c {l : Nat} (w : QD M qs hc h m q p x) (iv : FI p x) (hl : l < p.R * p.pl) (hq : ∀ h', Part h h' → Q (.tuple #[.int .i64 (whN (p.plan (p.reg l)).bk (x.l (p.reg l)) ((x.g (p.reg l)).slot p.pl (p.pos l)) : Nat), .int .i64 0]) h') :
  CT 47 #[.pointer (some ⟨m, 0, none⟩), .pointer (some ⟨q, 0, none⟩), .int .i64 (l : Int)] h Q := by
 obtain ⟨hr, hp⟩ := FPl.at_line iv.ok hl
 have r := w.region hr
 apply K47.ok
 refine K103.c w iv.ok hl ⟨_, _, rfl, qs (p.reg l), 0, rfl, _, r.c0, _, r.c1, _, r.c2, _, r.c3, K113.c (p := p.plan (p.reg l)) (x := x.at (p.reg l)) r.rf (iv.rg _ hr) hp fun h' p' => ⟨_, _, rfl, hq h' p'⟩⟩
theorem K43.c {l : Int} (w : QD M qs hc h m q p x) (iv : FI p x) (hy : 0 ≤ l → l < ((p.R * p.pl : Nat) : Int) → ∀ h', Part h h' → Q (.tuple #[.string (fr p x l.toNat), .int .i64 0]) h') (hn : ¬ (0 ≤ l ∧ l < ((p.R * p.pl : Nat) : Int)) → Q (.tuple #[.string ⟨#[]⟩, .int .i64 3]) h) :
  CT 43 #[.pointer (some ⟨m, 0, none⟩), .pointer (some ⟨q, 0, none⟩), .int .i64 l] h Q := by
 obtain ⟨a, c, e0, e1, e2, e3, e4, e5, _⟩ := w.cell
 have hm : p.R * p.pl ≤ 16 * 1024 := Nat.mul_le_mul iv.ok.r2 iv.ok.l2
 have ew : IntKind.i64.wrap ((p.R : Int) * (p.pl : Int)) = ((p.R * p.pl : Nat) : Int) := by rw [show (p.R : Int) * (p.pl : Int) = ((p.R * p.pl : Nat) : Int) by rw [Int.natCast_mul], i64_in _ (by omega)]
 apply K43.ok
 refine xsIf_intro (fun e => hn fun h3 => by have := of_decide_eq_true e; omega) fun e => ⟨q, 0, rfl, q, 0, rfl, _, e0, _, e1, ?_⟩
 rw [ew]
 refine xsIf_intro (fun e' => hn fun h3 => by have := of_decide_eq_true e'; omega) fun e' => ?_
 have e := of_decide_eq_false e
 have e' := of_decide_eq_false e'
 obtain ⟨l, rfl⟩ : ∃ k : Nat, l = k := ⟨l.toNat, by omega⟩
 have hy := hy (by omega) (by omega)
 rw [Int.toNat_natCast] at hy
 have hl : l < p.R * p.pl := by omega
 obtain ⟨hr, hp⟩ := FPl.at_line iv.ok hl
 have r := w.region hr
 apply K43.J3.ok
 refine K103.c w iv.ok hl ⟨_, _, rfl, qs (p.reg l), 0, rfl, _, r.c0, _, r.c1, _, r.c2, _, r.c3, K105.c (p := p.plan (p.reg l)) (x := x.at (p.reg l)) r.rf (iv.rg _ hr) (fun _ _ h' p' => ⟨_, _, rfl, ?_⟩) fun hno => absurd ⟨by omega, by rw [plan_pl]; omega⟩ hno⟩
 rw [Int.toNat_natCast]
 exact hy h' p'
theorem K42.J3.c {l : Int} {B : ByteArray} {k0 : Int} {v : Nat} {f : RPl → PmS → List Nat → Nat → Int × PmS × List Nat} (w : QD M qs hc h m q p x) (iv : FI p x)
  (hw : ∀ (i : Nat), i < p.pl → ∀ (k : Nat), k < p.R → ∀ {Q : QT}, (∀ h', RR M h' m (qs k) (p.plan k) (rwrite (p.plan k) (f (p.plan k)) (x.at k) i).2 → Step (MR M (qs k)) h (MR M (qs k)) h' → Q (.int .i64 (rwrite (p.plan k) (f (p.plan k)) (x.at k) i).1) h') →
   CT 104 #[.pointer (some ⟨m, 0, none⟩), .pointer (some ⟨qs k, 0, none⟩), .int .i64 (i : Int), .string B, .int .i64 k0, .int .u64 (v : Nat)] h Q)
  (hq : ∀ h', QD M qs hc h' m q p (if 0 ≤ l ∧ l < ((p.R * p.pl : Nat) : Int) then fput p f x l.toNat else (3, x)).2 → Step (MQ M qs p.R) h (MQ M qs p.R) h' → Q (.int .i64 (if 0 ≤ l ∧ l < ((p.R * p.pl : Nat) : Int) then fput p f x l.toNat else (3, x)).1) h') :
  K42.J3 (some ⟨m, 0, none⟩) (some ⟨q, 0, none⟩) l B k0 (v : Nat) h Q := by
 obtain ⟨a, c, e0, e1, e2, e3, e4, e5, _⟩ := w.cell
 have hm : p.R * p.pl ≤ 16 * 1024 := Nat.mul_le_mul iv.ok.r2 iv.ok.l2
 have ew : IntKind.i64.wrap ((p.R : Int) * (p.pl : Int)) = ((p.R * p.pl : Nat) : Int) := by rw [show (p.R : Int) * (p.pl : Int) = ((p.R * p.pl : Nat) : Int) by rw [Int.natCast_mul], i64_in _ (by omega)]
 have hn : ¬ (0 ≤ l ∧ l < ((p.R * p.pl : Nat) : Int)) → Q (.int .i64 3) h := fun hno => by
  rw [if_neg hno] at hq
  exact hq h w (Step.refl _ _)
 apply K42.J3.ok
 refine xsIf_intro (fun e => hn fun h3 => by have := of_decide_eq_true e; omega) fun e => ⟨q, 0, rfl, q, 0, rfl, _, e0, _, e1, ?_⟩
 rw [ew]
 refine xsIf_intro (fun e' => hn fun h3 => by have := of_decide_eq_true e'; omega) fun e' => ?_
 have e := of_decide_eq_false e
 have e' := of_decide_eq_false e'
 rw [if_pos ⟨by omega, by omega⟩] at hq
 obtain ⟨l, rfl⟩ : ∃ k : Nat, l = k := ⟨l.toNat, by omega⟩
 rw [Int.toNat_natCast] at hq
 have hl : l < p.R * p.pl := by omega
 obtain ⟨hr, hp⟩ := FPl.at_line iv.ok hl
 apply K42.J5.ok
 refine K103.c w iv.ok hl ⟨_, _, rfl, hw (p.pos l) hp (p.reg l) hr fun h' w' st' => ⟨_, rfl, ?_⟩⟩
 obtain ⟨w2, st2⟩ := w.set hr w' st'
 exact hq h' w2 st2
theorem K42.line {l : Int} {B : ByteArray} {v : Int} (w : QD M qs hc h m q p x) (iv : FI p x) (hv : 0 ≤ v) (hq : ∀ h', QD M qs hc h' m q p (fWrite p x l B).2 → Step (MQ M qs p.R) h (MQ M qs p.R) h' → Q (.int .i64 (fWrite p x l B).1) h') :
  CT 42 #[.pointer (some ⟨m, 0, none⟩), .pointer (some ⟨q, 0, none⟩), .int .i64 l, .string B, .int .i64 (-1), .int .u64 v] h Q := by
 apply K42.ok
 unfold fWrite at hq
 refine xsIf_t rfl (xsIf_intro (fun e => ?_) fun e => xsIf_f rfl ?_)
 ·have e := of_decide_eq_true e
  rw [if_neg (by omega)] at hq
  exact hq h w (Step.refl _ _)
 ·have e := of_decide_eq_false e
  have hB : B.size = 64 := by omega
  rw [if_pos hB] at hq
  obtain ⟨v, rfl⟩ : ∃ k : Nat, v = k := ⟨v.toNat, by omega⟩
  refine K42.J3.c (f := fW B) w iv (fun i hi k hk Q hq => ?_) hq
  refine K104.line (w.region hk) (iv.rg _ hk) (by omega) ?_
  rw [rWrite_eq (by exact hi) hB]
  exact hq
theorem K42.word {l k : Int} {B : ByteArray} {v : Nat} (hk : 0 ≤ k) (hv : v < 18446744073709551616) (w : QD M qs hc h m q p x) (iv : FI p x) (hq : ∀ h', QD M qs hc h' m q p (fWriteWord p x l k v).2 → Step (MQ M qs p.R) h (MQ M qs p.R) h' → Q (.int .i64 (fWriteWord p x l k v).1) h') :
  CT 42 #[.pointer (some ⟨m, 0, none⟩), .pointer (some ⟨q, 0, none⟩), .int .i64 l, .string B, .int .i64 k, .int .u64 (v : Nat)] h Q := by
 apply K42.ok
 unfold fWriteWord at hq
 refine xsIf_f (decide_eq_false (by omega)) (xsIf_intro (fun e => ?_) fun e => ?_)
 ·have e := of_decide_eq_true e
  rw [if_neg (by omega)] at hq
  exact hq h w (Step.refl _ _)
 ·have e := of_decide_eq_false e
  rw [if_pos (by omega)] at hq
  obtain ⟨k, rfl⟩ : ∃ q : Nat, k = q := ⟨k.toNat, by omega⟩
  rw [Int.toNat_natCast] at hq
  refine K42.J3.c (f := fK k v) w iv (fun i hi j hj Q hq => ?_) hq
  refine K104.word (by omega) hv (w.region hj) (iv.rg _ hj) ?_
  rw [rWriteWord_eq (by exact hi) (by omega)]
  exact hq
end
end Go.Gb
namespace Go.Gb
open Go.Proofs IntWalk
structure QI (hs h : Heap) (q : Nat) (p : FPl) (k : Nat) (qs : Nat → Nat) (a : Option Addr) (c : Nat) : Prop where
 o : Own hs h 95 1 a k c (ptrsOf qs k)
 qb : Blk h q (fcfgCs p ++ [.slice a k c])
 qn : hs q = none
 dq : Nq a q
 rg : ∀ j, j < k → Blk h (qs j) (refCs (p.plan j) 0) ∧ hs (qs j) = none ∧ qs j ≠ q ∧ Nq a (qs j)
 ne : ∀ i j, i < k → j < k → qs i = qs j → i = j
section
variable {M : Nat → Prop} {qs : Nat → Nat} {hs h h1 : Heap} {m q : Nat} {p : FPl} {x : FS} {Q : QT} {a : Option Addr} {cp0 : Nat}
theorem QI.done (i : QI hs h q p p.R qs a cp0) (rf : RfD M hs m x.s) (lm : Live M hs) (hn : ∀ k, x.n k = 0) : ∃ hc, QD M qs hc h m q p x ∧ (∀ j, hc j ≠ none → hs j = none) := by
 let hc : Heap := fun j => if j = q ∨ a = some ⟨j, 0, none⟩ then h j else none
 have cp : Part hc h := fun j o hj => by
  have hj : (if j = q ∨ a = some ⟨j, 0, none⟩ then h j else none) = some o := hj
  split at hj
  ·exact hj
  ·cases hj
 have hq : hc q = h q := if_pos (.inl rfl)
 have o1 : Own (fun _ => none) hc 95 1 a p.R cp0 (ptrsOf qs p.R) := i.o.move (fun _ _ e => by cases e) fun b e => ⟨if_pos (.inr e), rfl⟩
 have pt := i.o.part
 refine ⟨hc, ⟨rf.keep fun _ _ hk => part_live pt hk, (Step.of_part pt).dom lm, fun k hk => ?_, i.ne, ⟨a, cp0, i.qb.keep hq, o1.reads⟩, cp, fun j hj hf => ?_⟩, fun j hj => ?_⟩
 ·obtain ⟨b, n, _, _⟩ := i.rg k hk
  rw [hn k]
  exact ⟨b, fun hm => lm _ hm n⟩
 ·have hj : (if j = q ∨ a = some ⟨j, 0, none⟩ then h j else none) ≠ none := hj
  split at hj
  ·rename_i e
   rcases hf with hf | ⟨k, hk, hf⟩
   ·rcases e with e | e
    ·exact lm j hf (by rw [e]; exact i.qn)
    ·exact lm j hf (i.o.livB e).2
   ·obtain ⟨_, _, n1, n2⟩ := i.rg k hk
    rcases e with e | e
    ·exact n1 (by rw [← hf, e])
    ·exact n2 j e hf
  ·exact hj rfl
 ·have hj : (if j = q ∨ a = some ⟨j, 0, none⟩ then h j else none) ≠ none := hj
  split at hj
  ·rename_i e
   rcases e with e | e
   ·rw [e]; exact i.qn
   ·exact (i.o.livB e).2
  ·exact absurd rfl hj
set_option maxRecDepth 100000 in
theorem K41.L3.c (ok : p.rt) (hq : ∀ qs a c h', QI hs h' q p p.R qs a c → Q (.pointer (some ⟨q, 0, none⟩)) h') : ∀ (j k : Nat) (h : Heap) (qs : Nat → Nat) (a : Option Addr) (c : Nat), k + j = p.R → QI hs h q p k qs a c →
  K41.L3 (some ⟨q, 0, none⟩) (k : Int) p.R p.pl p.ps p.psi p.key h Q := by
 have r2 := ok.r2
 intro j
 induction j with
 | zero =>
  intro k h qs a c hk i
  apply K41.L3.ok
  have : k = p.R := by omega
  subst this
  exact xsIf_f (decide_eq_false (by omega)) (hq qs a c h i)
 | succ j ih =>
  intro k h qs a c hk i
  apply K41.L3.ok
  refine xsIf_t (decide_eq_true (by omega)) (K44.c (r := k) ok (by omega) ⟨_, _, _, _, rfl, q, 0, rfl, ?_⟩)
  have leaf : ∀ b, h b = none → ∀ b1, upd h b (Obj.cells #[.int .i64 (p.plan k).pa, .int .i64 (p.plan k).pl, .int .i64 (p.plan k).ps, .int .i64 (p.plan k).psi, .int .i64 0] 94 (0, 0)) b1 = none →
    xsApp Tryz.prog 95 (upd (upd h b (Obj.cells #[.int .i64 (p.plan k).pa, .int .i64 (p.plan k).pl, .int .i64 (p.plan k).ps, .int .i64 (p.plan k).psi, .int .i64 0] 94 (0, 0))) b1 (Obj.cells #[.pointer (some ⟨b, 0, none⟩)] 95 (0, 0)))
     a k c (some ⟨b1, 0, none⟩) 1 fun (a' : Option Addr) (n' c' : Nat) (h' : Heap) => atBase (some ⟨q, 0, none⟩) fun (b o : Nat) => h'.can b (o + 5) 1 ∧ K41.L3 (some ⟨q, 0, none⟩) (IntKind.i64.wrap ((k : Int) + 1)) p.R p.pl p.ps p.psi p.key (h'.put b (o + 5) [.slice a' n' c']) Q := by
   intro b hb b1 hb1
   have kb := Blk.new h b #[.int .i64 (p.plan k).pa, .int .i64 (p.plan k).pl, .int .i64 (p.plan k).ps, .int .i64 (p.plan k).psi, .int .i64 0] 94
   have p1 : Part h (upd h b (Obj.cells #[.int .i64 (p.plan k).pa, .int .i64 (p.plan k).pl, .int .i64 (p.plan k).ps, .int .i64 (p.plan k).psi, .int .i64 0] 94 (0, 0))) := Part.upd hb _
   generalize upd h b (Obj.cells #[.int .i64 (p.plan k).pa, .int .i64 (p.plan k).pl, .int .i64 (p.plan k).ps, .int .i64 (p.plan k).psi, .int .i64 0] 94 (0, 0)) = h1 at kb p1 hb1
   have kt := Blk.new h1 b1 #[.pointer (some ⟨b, 0, none⟩)] 95
   have p2 : Part h1 (upd h1 b1 (Obj.cells #[.pointer (some ⟨b, 0, none⟩)] 95 (0, 0))) := Part.upd hb1 _
   generalize upd h1 b1 (Obj.cells #[.pointer (some ⟨b, 0, none⟩)] 95 (0, 0)) = h2 at kt p2
   have p12 := p1.trans p2
   have nqb : Nq a b := Nq.fresh i.o hb
   have kb2 := kb.keep (part_live p2 kb.ne)
   refine (i.o.keep p12).append3 (new := [.pointer (some ⟨b, 0, none⟩)]) (by kernel_rfl) (by omega) rfl rfl (reads_blk kt) (by kernel_rfl) (by rw [show cellBytes Tryz.prog 95 = 8 by kernel_rfl]; omega) fun a' c' h3 o3 lv st fr => ?_
   have qb2 := i.qb.keep (part_live p12 i.qb.ne)
   have qb3 := qb2.keep (st q i.dq qb2.ne)
   have qb4 := qb3.put (0 + 5) [.slice a' (k + 1) c']
   refine ⟨q, 0, rfl, qb3.can (by show 0 + 5 + 1 ≤ 6; omega), ?_⟩
   generalize eh : h3.put q (0 + 5) [.slice a' (k + 1) c'] = h4 at qb4
   have e4 : ∀ y, y ≠ q → h4 y = h3 y := fun y hy => by rw [← eh, put_other _ _ _ hy]
   have p4 : Part hs h4 := by rw [← eh]; exact o3.part.put i.qn _ _
   have old : ∀ y, h2 y ≠ none → y ≠ q → Nq a y → h4 y = h2 y ∧ Nq a' y := fun y hy hne hn => by
    refine ⟨(e4 y hne).trans (st y hn hy), fun c e hc => ?_⟩
    rcases fr c e with e' | e'
    ·exact hn c (e'.trans e) hc
    ·rw [hc] at e'; exact hy e'
   have bq : b ≠ q := fun e => i.qb.ne (by rw [← e]; exact hb)
   obtain ⟨ob1, ob2⟩ := old b kb2.ne bq nqb
   have nq' : Nq a' q := fun c e hc => by
    rcases fr c e with e' | e'
    ·exact i.dq c (e'.trans e) hc
    ·rw [hc] at e'; exact qb2.ne e'
   rw [show IntKind.i64.wrap ((k : Int) + 1) = ((k + 1 : Nat) : Int) by rw [i64_in _ (by omega)]; omega]
   refine ih (k + 1) h4 (fset qs k b) a' c' (by omega) ⟨?_, qb4, i.qn, nq', fun y hy => ?_, fun i' j' hi hj e => ?_⟩
   ·rw [ptrsOf_succ]
    exact o3.move p4 fun d e => ⟨e4 d (nq' d e), (o3.livB e).2⟩
   ·by_cases e : y = k
    ·subst e
     simp only [fset, if_true]
     exact ⟨kb2.keep ob1, Part.none i.o.part hb, bq, ob2⟩
    ·simp only [fset, if_neg e]
     obtain ⟨b0, n0, n1, n2⟩ := i.rg y (by omega)
     have b2 := b0.keep (part_live p12 b0.ne)
     obtain ⟨x1, x2⟩ := old _ b2.ne n1 n2
     exact ⟨b2.keep x1, n0, n1, x2⟩
   ·have fresh : ∀ y, y < k → qs y ≠ b := fun y hy e => (i.rg y hy).1.ne (by rw [e]; exact hb)
    unfold fset at e
    by_cases e1 : i' = k
    ·by_cases e2 : j' = k
     ·omega
     ·rw [if_pos e1, if_neg e2] at e
      exact absurd e.symm (fresh j' (by omega))
    ·by_cases e2 : j' = k
     ·rw [if_neg e1, if_pos e2] at e
      exact absurd e (fresh i' (by omega))
     ·rw [if_neg e1, if_neg e2] at e
      exact i.ne i' j' (by omega) (by omega) e
  have c5 : ∀ {h' : Heap}, Part h h' → h'.cell q (0 + 5) = some (.slice a k c) := fun pt => (i.qb.keep (part_live pt i.qb.ne)).cell 5
  refine ⟨⟨_, _, _, c5 (Part.refl h), fun b hb b1 hb1 => leaf b hb b1 hb1⟩, fun b hb => ⟨⟨_, _, _, c5 (Part.upd hb _), fun b1 hb1 => leaf b hb b1 hb1⟩, fun b1 hb1 => ⟨_, _, _, c5 ((Part.upd hb _).trans (Part.upd hb1 _)), leaf b hb b1 hb1⟩⟩⟩
theorem K41.c (rf : RfD M h m x.s) (lm : Live M h) (ok : p.rt) (hn : ∀ k, x.n k = 0) (hq : ∀ q qs hc h', QD M qs hc h' m q p x → (∀ k, k < p.R → h (qs k) = none) → (∀ j, hc j ≠ none → h j = none) → Part h h' → Q (.pointer (some ⟨q, 0, none⟩)) h') :
  CT 41 #[fcfgV p] h Q := by
 apply K41.ok
 intro q hb
 have pt : Part h (upd h q (Obj.cells #[.int .i64 p.R, .int .i64 p.pl, .int .i64 p.ps, .int .i64 p.psi, .int .u64 p.key, .slice none 0 0] 98 (0, 0))) := Part.upd hb _
 have k2 := Blk.new h q #[.int .i64 p.R, .int .i64 p.pl, .int .i64 p.ps, .int .i64 p.psi, .int .u64 p.key, .slice none 0 0] 98
 exact K41.L3.c (hs := h) ok (fun qs a c h' i => by
  obtain ⟨hc, w, f⟩ := i.done rf lm hn
  exact hq q qs hc h' w (fun k hk => (i.rg k hk).2.1) f i.o.part) p.R 0 _ (fun _ => 0) none 0 (by omega)
  ⟨Own.nil pt, k2, hb, fun _ e => (by cases e), fun j hj => by omega, fun i j hi => by omega⟩
end
end Go.Gb
namespace Go.Gb
open Go.Proofs IntWalk
theorem pboot_on {s : PmS} (o : On s) (ks : List Bool) : pboot s ks = { s with buf := fun _ => none, off := false, fuse := 0 } := by
 unfold pboot
 rw [show pend s = [] from pend_none o.buf]
 show { Gb.plast s [] with buf := fun _ => none, off := false, fuse := 0 } = _
 rw [plast_nil]
end Go.Gb
namespace Go.Gb
open Go.Proofs IntWalk
end Go.Gb
namespace Go.Gb
open Go.Proofs IntWalk
theorem FI.boot {p : FPl} {x : FS} (w : FI p x) (ks : List Bool) : FI p ⟨pboot x.s ks, x.l, x.g, fun _ => 0⟩ ∧ ∀ l, l < p.R * p.pl → fr p ⟨pboot x.s ks, x.l, x.g, fun _ => 0⟩ l = fr p x l := by
 have e : pboot x.s ks = { x.s with buf := fun _ => none, off := false, fuse := 0 } := pboot_on w.on ks
 refine ⟨⟨?_, fun k hk => ((w.rg k hk).boot ks).1, ?_⟩, fun l hl => ?_⟩
 ·show p.ok (pboot x.s ks).nl
  rw [e]; exact w.ok
 ·show rdN (pboot x.s ks).media 0 = headB p
  rw [e]; exact w.hd
 ·obtain ⟨hr, hp⟩ := FPl.at_line w.ok hl
  exact ((w.rg _ hr).boot ks).2 _ hp
end Go.Gb
namespace Go.Gb
open Go.Proofs IntWalk
end Go.Gb
namespace Go.Gb
open Go.Proofs IntWalk
end Go.Gb
namespace Go.Gb
open Go.Proofs IntWalk
theorem K19.c {s : ByteArray} {h : Heap} {Q : QT} (hs : s.size ≤ 140737488351232) (hq : Q (.string (fullB s)) h) : CT 19 #[.string s] h Q := by
 apply K19.ok
 refine strings_Repeat.c (c := 64) (by omega) (by show 1 ≤ 1000000; omega) ⟨_, rfl, ?_, ?_, hq⟩
 ·show ((s.size + zero64.size : Nat) : Int) ≤ _
  rw [zero64_size]; omega
 ·show (0 : Int) ≤ 64 ∧ (64 : Int) ≤ ((s ++ zero64).size : Int)
  rw [ByteArray.size_append, zero64_size]; omega
theorem imax0 (x : Int) : ∃ q : Nat, imax 0 x = q := ⟨(imax 0 x).toNat, by rw [imax_eq]; omega⟩
theorem small_fpl (x0 x1 x2 x3 : Int) {key : Nat} (hk : key < 18446744073709551616) : ∃ p : FPl, p.rt ∧ p.R ≤ 3 ∧ p.pl ≤ 5 ∧ p.ps ≤ 4 ∧ p.psi ≤ 4 ∧ p.key = key ∧ IntKind.i64.wrap (1 + irem (imax 0 x0) 3) = p.R ∧ IntKind.i64.wrap (1 + irem (imax 0 x1) 5) = p.pl ∧ irem (imax 0 x2) 5 = p.ps ∧ IntKind.i64.wrap (1 + irem (imax 0 x3) 4) = p.psi := by
 obtain ⟨a, ha⟩ := imax0 x0
 obtain ⟨l, hl⟩ := imax0 x1
 obtain ⟨s, hs⟩ := imax0 x2
 obtain ⟨t, ht⟩ := imax0 x3
 refine ⟨⟨1 + a % 3, 1 + l % 5, s % 5, 1 + t % 4, key⟩, ⟨?_, ?_, ?_, ?_, ?_, ?_, ?_, hk⟩, ?_, ?_, ?_, ?_, rfl, ?_, ?_, ?_, ?_⟩
 ·show 1 ≤ 1 + a % 3; omega
 ·show 1 + a % 3 ≤ 16; omega
 ·show 1 ≤ 1 + l % 5; omega
 ·show 1 + l % 5 ≤ 1024; omega
 ·show s % 5 ≤ 64; omega
 ·show 1 ≤ 1 + t % 4; omega
 ·show 1 + t % 4 ≤ 65535; omega
 ·show 1 + a % 3 ≤ 3; omega
 ·show 1 + l % 5 ≤ 5; omega
 ·show s % 5 ≤ 4; omega
 ·show 1 + t % 4 ≤ 4; omega
 ·rw [ha, show irem ((a : Nat) : Int) 3 = ((a % 3 : Nat) : Int) from irem_nat a 3, i64_in _ (by omega)]
  show (1 : Int) + ((a % 3 : Nat) : Int) = ((1 + a % 3 : Nat) : Int); omega
 ·rw [hl, show irem ((l : Nat) : Int) 5 = ((l % 5 : Nat) : Int) from irem_nat l 5, i64_in _ (by omega)]
  show (1 : Int) + ((l % 5 : Nat) : Int) = ((1 + l % 5 : Nat) : Int); omega
 ·rw [hs]; exact irem_nat s 5
 ·rw [ht, show irem ((t : Nat) : Int) 4 = ((t % 4 : Nat) : Int) from irem_nat t 4, i64_in _ (by omega)]
  show (1 : Int) + ((t % 4 : Nat) : Int) = ((1 + t % 4 : Nat) : Int); omega
theorem FPl.rt.ok {p : FPl} (o : p.rt) (h : 1 + p.R * p.z ≤ 8192) : p.ok (1 + p.R * p.z) := ⟨o.r1, o.r2, o.l1, o.l2, o.s2, o.q1, o.q2, o.k, Nat.le_refl _, h⟩
theorem small_size {p : FPl} (h1 : p.R ≤ 3) (h2 : p.pl ≤ 5) (h3 : p.ps ≤ 4) : 1 + p.R * p.z ≤ 40 := by
 have hz : p.z ≤ 12 := by unfold FPl.z; omega
 have := Nat.mul_le_mul h1 hz
 omega
theorem On.new (n : Nat) : On (pnew n) := (Cl.new n).on
theorem F0.new (n : Nat) : F0 (pnew n) := ⟨rfl, rfl⟩
theorem fmake_new {p : FPl} {n : Nat} (ok : p.ok n) : ∃ s, fmake p (pnew n) = (0, s) ∧ FI p (FS.zero p s) ∧ Sd s ∧ s.nl = n ∧ ∀ l, l < p.R * p.pl → fr p (FS.zero p s) l = zero64 := by
 obtain ⟨n1, nb, f, r⟩ := fmake_out (s := pnew n) ok (On.new n) (PmOk.new n) (fun _ => rfl) (.inl (F0.new n))
 obtain ⟨e, f1⟩ := f (F0.new n)
 generalize fmake p (pnew n) = q at n1 nb r e f1
 obtain ⟨a, s⟩ := q
 have e : a = 0 := e
 subst e
 rcases r with ⟨_, w, z⟩ | r
 ·exact ⟨s, rfl, w, ⟨f1, nb⟩, n1, z⟩
 ·have := r.1; cases this
structure Lq (h0 h : Heap) (F : Nat → Prop) (Gs : Nat → Nat → Prop) (bs rs : Nat → Nat) (hc : Heap) (d f : Nat) (p : FPl) (x : FS) : Prop where
 fd : FD F Gs bs rs hc h d f p x
 pt : Part h0 h
 ff : ∀ k, h0 k ≠ none → ¬ FF F Gs rs p.R k
section
variable {F : Nat → Prop} {Gs : Nat → Nat → Prop} {bs rs : Nat → Nat} {hc h0 h h1 h2 : Heap} {d f : Nat} {p : FPl} {x x' : FS} {Q : QT}
theorem Lq.next (i : Lq h0 h F Gs bs rs hc d f p x) (w : FD F Gs bs rs hc h1 d f p x') (st : Step (FF F Gs rs p.R) h (FF F Gs rs p.R) h1) : Lq h0 h1 F Gs bs rs hc d f p x' := ⟨w, st.part i.pt i.ff, i.ff⟩
theorem Lq.part (i : Lq h0 h F Gs bs rs hc d f p x) (pt : Part h h1) : Lq h0 h1 F Gs bs rs hc d f p x := ⟨i.fd.part pt, i.pt.trans pt, i.ff⟩
theorem Lq.dev {s' : PmS} (i : Lq h0 h F Gs bs rs hc d f p x) (w : PmD F h1 d s') (st : Step F h F h1) : Lq h0 h1 F Gs bs rs hc d f p ⟨s', x.l, x.g, x.n⟩ :=
 i.next (i.fd.dev w st).1 (i.fd.dev w st).2
theorem Lq.of_open (w : FD F Gs bs rs hc h2 d f p x) (pt : Part h0 h1) (pt2 : Part h1 h2) (hF : ∀ k, h0 k ≠ none → ¬ F k) (fr : ∀ j, j < p.R → ∀ i, (Gs j i ∨ i = rs j) → h1 i = none) : Lq h0 h2 F Gs bs rs hc d f p x := by
 refine ⟨w, pt.trans pt2, fun k hk hf => ?_⟩
 rcases hf with hf | ⟨j, hj, hf⟩
 ·exact hF k hk hf
 ·have e := part_live pt hk
  rw [fr j hj k hf] at e
  exact hk e.symm
def wcfg : FPl := ⟨2, 4, 0, 3, 77⟩
theorem wcfg_ok : wcfg.ok 13 := ⟨by decide, by decide, by decide, by decide, by decide, by decide, by decide, by decide, by decide, by decide⟩
def xB : ByteArray := ⟨#[UInt8.ofNat 120]⟩
set_option maxRecDepth 100000 in
theorem K23.c {h : Heap} (hq : ∀ h', Part h h' → Q (.bool true) h') : CT 23 #[] h Q := by
 apply K23.ok
 obtain ⟨s, e1, iv, sd, nl, z⟩ := fmake_new wcfg_ok
 refine K15.c (n := 13) (by omega) (by omega) fun d F h1 w1 fr lv1 p1 => ⟨_, _, rfl, ?_⟩
 have hMake := fun {Q : QT} hq => K17.c (Q := Q) (p := wcfg) w1 lv1 wcfg_ok (On.new 13) (PmOk.new 13) (fun _ => rfl) hq
 refine hMake fun h2 w2 st2 => ⟨_, rfl, ?_⟩
 rw [e1] at w2 ⊢
 have hff : ∀ k, h k ≠ none → ¬ F k := fun k hk' hf => hk' (fr k hf)
 have P2 : Part h h2 := st2.part p1 hff
 have lv2 := st2.dom lv1
 refine K18.c (p := wcfg) (x := FS.zero wcfg s) w2 lv2 iv fun f Gs bs rs hc h3 w3 fG fc p3 => ⟨_, _, rfl, xsIf_f rfl (xsIf_f rfl (xsIf_f rfl ?_))⟩
 have i3 := Lq.of_open w3 P2 p3 hff fG
 obtain ⟨iv3, z3⟩ := iv.new
 have e8 : ((wcfg.R * wcfg.pl : Nat) : Int) = 8 := rfl
 refine K24.c w3 wcfg_ok ⟨_, rfl, xsIf_f rfl (K16.c (p := wcfg) wcfg_ok.rt ⟨_, rfl, xsIf_f rfl ?_⟩)⟩
 obtain ⟨a1, c1, a2, c2, g0, g1, g2, g3, g4, _⟩ := w3.cell
 apply K36.ok
 refine xsIf_f rfl ⟨f, 0, rfl, _, g0, _, g1, _, g2, _, g3, _, g4, _, _, _, _, _, rfl, xsIf_f rfl ?_⟩
 apply K23.J7.ok
 obtain ⟨x1, q1, v1, sd1, nl1, r1⟩ := fWrite_sound iv3 sd (l := 5) (by decide) (fullB_size xB)
 refine K19.c (by decide) ⟨_, rfl, K20.c (l := 5) (B := fullB xB) w3 iv3 fun h4 w4 st4 => ⟨_, rfl, ?_⟩⟩
 have q1' : fWrite wcfg ⟨(FS.zero wcfg s).s, (FS.zero wcfg s).l, (FS.zero wcfg s).g, fun _ => 0⟩ 5 (fullB xB) = (0, x1) := q1
 rw [q1'] at w4 ⊢
 have i4 := i3.next w4 st4
 refine K22.c (l := 5) w4 v1 (fun _ _ => ⟨_, _, rfl, K22.c (l := 4) w4 v1 (fun _ _ => ⟨_, _, rfl, ?_⟩) fun hn => absurd ⟨by omega, by omega⟩ hn⟩) fun hn => absurd ⟨by omega, by omega⟩ hn
 have er5 : Gb.fr wcfg x1 5 = fullB xB := by rw [r1 5 (by decide), if_pos rfl]
 have er4 : Gb.fr wcfg x1 4 = fullB ⟨#[]⟩ := by rw [r1 4 (by decide), if_neg (by omega), z3, z 4 (by decide), fullB_nil]
 refine xsIf_t rfl (xsIf_t rfl (K19.c (by decide) ⟨_, rfl, xsIf_t (decide_eq_true er5) (K19.c (by decide) ⟨_, rfl, xsIf_t (decide_eq_true er4) ?_⟩)⟩))
 refine K28.c (l := 5) w4 wcfg_ok (fun _ _ => ⟨_, rfl, ?_⟩) fun hn => absurd ⟨by omega, by omega⟩ hn
 exact hq h4 i4.pt
end
end Go.Gb
namespace Go.Gb
open Go.Proofs IntWalk
def StF (p : FPl) (x : FS) : Prop := FI p x ∨ (x.s.off = true ∧ PmOk x.s ∧ ∀ ks, ∃ x', x'.s = pboot x.s ks ∧ (∀ k, x'.n k = 0) ∧ FI p x')
theorem StF.ok {p : FPl} {x : FS} (t : StF p x) : PmOk x.s := by
 rcases t with t | t
 ·exact t.pm
 ·exact t.2.1
theorem FlOut.st {p : FPl} {x : FS} {l : Nat} {B : ByteArray} {M : ByteArray → Prop} {r : Int × FS} (o : FlOut p x l B M r) : StF p r.2 := by
 rcases o with o | o | ⟨_, e, w, m⟩
 ·exact .inl o.2.1
 ·exact .inl o.2.1
 ·exact .inr ⟨e, w, fun ks => by obtain ⟨x', e, n, w', _⟩ := m ks; exact ⟨x', e, n, w'⟩⟩
theorem fput_nl {p : FPl} {x : FS} {f : RPl → PmS → List Nat → Nat → Int × PmS × List Nat} (w : FI p x) {l : Nat} (hl : l < p.R * p.pl) (hx : FFx (p.plan (p.reg l)) (f (p.plan (p.reg l)))) : (fput p f x l).2.s.nl = x.s.nl := by
 obtain ⟨hr, hp⟩ := FPl.at_line w.ok hl
 have fx : Fx (p.plan (p.reg l)).pa ((p.plan (p.reg l)).pa + sizeN (p.plan (p.reg l)).bk) x.s _ := rwrite_fx (w.rg _ hr) (i := p.pos l) hp hx
 exact fx.nl
theorem fWrite_st {p : FPl} {x : FS} (w : FI p x) (l : Int) (B : ByteArray) : StF p (fWrite p x l B).2 ∧ (fWrite p x l B).2.s.nl = x.s.nl := by
 by_cases hB : B.size = 64
 ·by_cases hl : 0 ≤ l ∧ l < ((p.R * p.pl : Nat) : Int)
  ·obtain ⟨l, rfl⟩ : ∃ k : Nat, l = k := ⟨l.toNat, by omega⟩
   refine ⟨(fWrite_out w (l := l) (by omega) hB).st, ?_⟩
   rw [fWrite_eq (by omega) hB]
   exact fput_nl w (by omega) (FFx.write _ hB)
  ·unfold fWrite; rw [if_pos hB, if_neg hl]; exact ⟨.inl w, rfl⟩
 ·unfold fWrite; rw [if_neg hB]; exact ⟨.inl w, rfl⟩
theorem fWriteWord_st {p : FPl} {x : FS} (w : FI p x) (l k : Int) {v : Nat} (hv : v < 18446744073709551616) : StF p (fWriteWord p x l k v).2 ∧ (fWriteWord p x l k v).2.s.nl = x.s.nl := by
 by_cases hk : 0 ≤ k ∧ k < 8
 ·by_cases hl : 0 ≤ l ∧ l < ((p.R * p.pl : Nat) : Int)
  ·obtain ⟨l, rfl⟩ : ∃ k : Nat, l = k := ⟨l.toNat, by omega⟩
   obtain ⟨k, rfl⟩ : ∃ q : Nat, k = q := ⟨k.toNat, by omega⟩
   refine ⟨(fWriteWord_out w (l := l) (k := k) (by omega) (by omega) hv).st, ?_⟩
   rw [fWriteWord_eq (by omega) (by omega)]
   exact fput_nl w (by omega) (FFx.word _ (by omega) hv)
  ·unfold fWriteWord; rw [if_pos hk, if_neg hl]; exact ⟨.inl w, rfl⟩
 ·unfold fWriteWord; rw [if_neg hk]; exact ⟨.inl w, rfl⟩
structure T9 (h0 h : Heap) (F : Nat → Prop) (Gs : Nat → Nat → Prop) (bs rs : Nat → Nat) (hc : Heap) (d f : Nat) (M : Nat → Prop) (qs : Nat → Nat) (hq : Heap) (m q : Nat) (p : FPl) (x : FS) : Prop where
 fd : FD F Gs bs rs hc h d f p x
 qd : QD M qs hq h m q p x
 ap : Apart (FF F Gs rs p.R) (MQ M qs p.R)
 ca : ∀ i, hc i ≠ none → ¬ MQ M qs p.R i
 cb : ∀ i, hq i ≠ none → ¬ FF F Gs rs p.R i
 pt : Part h0 h
 ff : ∀ k, h0 k ≠ none → ¬ FF F Gs rs p.R k
 fm : ∀ k, h0 k ≠ none → ¬ MQ M qs p.R k
section
variable {h0 h h1 h2 : Heap} {F : Nat → Prop} {Gs : Nat → Nat → Prop} {bs rs : Nat → Nat} {hc : Heap} {d f : Nat} {M : Nat → Prop} {qs : Nat → Nat} {hq0 : Heap} {m q : Nat} {p : FPl} {x x' : FS} {Q : QT}
theorem T9.part (i : T9 h0 h F Gs bs rs hc d f M qs hq0 m q p x) (pt : Part h h1) : T9 h0 h1 F Gs bs rs hc d f M qs hq0 m q p x := ⟨i.fd.part pt, i.qd.part pt, i.ap, i.ca, i.cb, i.pt.trans pt, i.ff, i.fm⟩
theorem T9.over (i : T9 h0 h F Gs bs rs hc d f M qs hq0 m q p x) (st1 : Step (FF F Gs rs p.R) h (FF F Gs rs p.R) h1) : QD M qs hq0 h1 m q p x :=
 i.qd.keep (st1.same i.ap) (st1.part i.qd.cp i.cb)
theorem T9.next (i : T9 h0 h F Gs bs rs hc d f M qs hq0 m q p x) (w1 : FD F Gs bs rs hc h1 d f p x') (st1 : Step (FF F Gs rs p.R) h (FF F Gs rs p.R) h1) (w2 : QD M qs hq0 h2 m q p x') (st2 : Step (MQ M qs p.R) h1 (MQ M qs p.R) h2) : T9 h0 h2 F Gs bs rs hc d f M qs hq0 m q p x' :=
 ⟨w1.keep (st2.same i.ap.symm) (st2.part w1.cp i.ca), w2, i.ap, i.ca, i.cb, st2.part (st1.part i.pt i.ff) i.fm, i.ff, i.fm⟩
theorem T9.dev {s' : PmS} (i : T9 h0 h F Gs bs rs hc d f M qs hq0 m q p x) (w1 : PmD F h1 d s') (st1 : Step F h F h1) (w2 : RfD M h2 m s') (st2 : Step M h1 M h2) : T9 h0 h2 F Gs bs rs hc d f M qs hq0 m q p ⟨s', x.l, x.g, x.n⟩ := by
 obtain ⟨a1, a2⟩ := i.fd.dev w1 st1
 obtain ⟨b1, b2⟩ := (i.over a2).dev w2 st2
 exact i.next a1 a2 b1 b2
theorem T9.apd (i : T9 h0 h F Gs bs rs hc d f M qs hq0 m q p x) : Apart F M := fun k hk hf => i.ap k (.inl hk) (.inl hf)
theorem T9.mix {hE : Heap} {s' : PmS} (i : T9 h0 h F Gs bs rs hc d f M qs hq0 m q p x) (wd : PmD F hE d s') (wm : RfD M hE m s') (u : Step (fun k => F k ∨ M k) h (fun k => F k ∨ M k) hE) : T9 h0 hE F Gs bs rs hc d f M qs hq0 m q p ⟨s', x.l, x.g, x.n⟩ := by
 have kc : Part hc hE := u.part i.fd.cp fun k hk hf => by
  rcases hf with hf | hf
  ·exact i.fd.cf k hk (.inl hf)
  ·exact i.ca k hk (.inl hf)
 have kq : Part hq0 hE := u.part i.qd.cp fun k hk hf => by
  rcases hf with hf | hf
  ·exact i.cb k hk (.inl hf)
  ·exact i.qd.cf k hk (.inl hf)
 have kr : ∀ j, j < p.R → ∀ k, (Gs j k ∨ k = rs j) → h k ≠ none → hE k = h k := fun j hj k hk hn => u.keep k (fun hf => by
  have hFF : FF F Gs rs p.R k := .inr ⟨j, hj, hk⟩
  rcases hf with hf | hf
  ·have g := i.fd.rg j hj
   rcases hk with hk | hk
   ·exact g.ap k hk hf
   ·rw [hk] at hf; exact g.nr (.inl hf)
  ·exact i.ap k (.inl hf) hFF) hn
 refine ⟨⟨wd, u.alive i.fd.lf, fun j hj => ?_, i.fd.ne, i.fd.cb, kc, i.fd.cf⟩, ⟨wm, u.alive i.qd.lm, fun j hj => ?_, i.qd.ne, i.qd.cb, kq, i.qd.cf⟩, i.ap, i.ca, i.cb, u.part i.pt fun k hk hf => ?_, i.ff, i.fm⟩
 ·have g := i.fd.rg j hj
  exact ⟨g.bk.keep fun k hk hn => kr j hj k (.inl hk) hn, u.alive g.lg, g.ap, g.rc.keep (kr j hj _ (.inr rfl) g.rc.ne), g.nr⟩
 ·obtain ⟨b, nm⟩ := i.qd.rg j hj
  exact ⟨b.keep (u.keep _ (fun hf => by
   rcases hf with hf | hf
   ·exact i.ap _ (.inr ⟨j, hj, rfl⟩) (.inl hf)
   ·exact nm hf) b.ne), nm⟩
 ·rcases hf with hf | hf
  ·exact i.ff k hk (.inl hf)
  ·exact i.fm k hk (.inl hf)
theorem T9.of_open {h3 h4 : Heap} (apd : Apart F M) (lm : Live M h2) (pt0 : Part h0 h2) (fF : ∀ k, h0 k ≠ none → ¬ F k) (fM : ∀ k, h0 k ≠ none → ¬ M k)
  (w3 : FD F Gs bs rs hc h3 d f p x) (fG : ∀ j, j < p.R → ∀ i, (Gs j i ∨ i = rs j) → h2 i = none) (fc : ∀ j, hc j ≠ none → h2 j = none) (p3 : Part h2 h3)
  (w4 : QD M qs hq0 h4 m q p x) (fq : ∀ k, k < p.R → h3 (qs k) = none) (fh : ∀ j, hq0 j ≠ none → h3 j = none) (p4 : Part h3 h4) : T9 h0 h4 F Gs bs rs hc d f M qs hq0 m q p x := by
 refine ⟨w3.part p4, w4, fun k hm hf => ?_, fun i hi hm => ?_, fun i hi hf => w3.live i hf (fh i hi), (pt0.trans p3).trans p4, fun k hk hf => ?_, fun k hk hm => ?_⟩
 ·rcases hm with hm | ⟨j, hj, rfl⟩
  ·rcases hf with hf | ⟨j, hj, hf⟩
   ·exact apd k hm hf
   ·exact lm k hm (fG j hj k hf)
  ·exact w3.live _ hf (fq j hj)
 ·rcases hm with hm | ⟨j, hj, rfl⟩
  ·exact lm i hm (fc i hi)
  ·rw [← part_live w3.cp hi] at hi
   exact hi (fq j hj)
 ·rcases hf with hf | ⟨j, hj, hf⟩
  ·exact fF k hk hf
  ·have := part_live pt0 hk
   rw [fG j hj k hf] at this
   exact hk this.symm
 ·rcases hm with hm | ⟨j, hj, rfl⟩
  ·exact fM k hk hm
  ·have := part_live (pt0.trans p3) hk
   rw [fq j hj] at this
   exact hk this.symm
theorem K40.c {s : PmS} (wd : PmD F h d s) (w0 : RfD M h m s) (ok : PmOk s) (hq : Q (.bool true) h) : CT 40 #[.pointer (some ⟨d, 0, none⟩), .pointer (some ⟨m, 0, none⟩)] h Q := by
 have w1 := w0
 obtain ⟨wb, rb, bb, q, w⟩ := w1
 have h92 := w.hi
 apply K40.ok
 have ne : ∀ {x : Int}, decide (x ≠ x) = false := decide_eq_false (fun h => h rfl)
 have beq : ∀ (x : Bool), (x == x) = true := fun x => by cases x <;> rfl
 have loop : ∀ (j k : Nat), k + j = s.nl → K40.L2 (some ⟨d, 0, none⟩) (some ⟨m, 0, none⟩) (s.nl : Int) (k : Int) h Q := by
  intro j
  induction j with
  | zero =>
   intro k hk
   apply K40.L2.ok
   refine xsIf_f (decide_eq_false (by omega)) ⟨m, 0, rfl, K35.c wd ⟨_, rfl, _, w.c5, xsIf_t (decide_eq_true rfl) ?_⟩, _, w.c5, K35.c wd ⟨_, rfl, xsIf_t (decide_eq_true rfl) ?_⟩⟩
   all_goals exact ⟨m, 0, rfl, K102.c wd ⟨_, rfl, _, w.c4, by rw [beq]; exact hq⟩, _, w.c4, K102.c wd ⟨_, rfl, by rw [beq]; exact hq⟩⟩
  | succ j ih =>
   intro k hk
   apply K40.L2.ok
   have hn : k < s.nl := by omega
   have kb : 0 ≤ (k : Int) ∧ (k : Int) < (s.nl : Int) := by omega
   have tk := (media_took (B := lnbytes fun j => (s.media (8 * k + j)).toNat) ok hn (lnbytes_size _)).1 rfl
   refine xsIf_t (decide_eq_true (by omega)) (K100.c w0 ok hn ⟨_, rfl, K101.c wd (fun _ => ⟨_, rfl, xsIf_f rfl ?_⟩) fun t => absurd tk (took_no t)⟩)
   rw [show IntKind.i64.wrap ((k : Int) + 1) = ((k + 1 : Nat) : Int) by rw [i64_in _ (by omega)]; omega]
   exact ih (k + 1) (by omega)
 exact ⟨m, 0, rfl, _, _, _, w.c1, loop s.nl 0 (by omega)⟩
end
end Go.Gb
namespace Go.Gb
open Go.Proofs IntWalk
theorem okc_len {P : Program} {h : Heap} {d n : Nat} {t : TypeId} {cs : List Value} (ht : (match P.underlying t with | some (.struct _) => true | _ => false) = true) (hn : P.cellsOf t = n) (hk : Okc P h (d + 1) t cs) : cs.length = n := by
 unfold Okc at hk
 split at ht
 ·rename_i fs e
  rw [e] at hk
  rw [← hn]; exact hk.1
 ·cases ht
set_option maxRecDepth 100000 in
theorem okc_cfg {h : Heap} {cs : List Value} (hc : Okc Tryz.prog h 8 24 cs) : ∃ y0 y1 y2 y3 y4 : Int, cs = [.int .i64 y0, .int .i64 y1, .int .i64 y2, .int .i64 y3, .int .u64 y4] ∧ (0 ≤ y4 ∧ y4 ≤ 18446744073709551615) := by
 have hl : cs.length = 5 := okc_len (by kernel_rfl) (by kernel_rfl) hc
 obtain ⟨e1, e2⟩ := okc_each (d := 3) 5 24 [3, 3, 3, 3, 22] cs (by kernel_rfl) hc (by rw [hl]; rfl)
 match cs, hl with
 | [p, q, r, s, u], _ =>
  obtain ⟨x0, rfl, -⟩ := okc_int (k := .i64) (by kernel_rfl) (e2 0 _ _ rfl rfl)
  obtain ⟨x1, rfl, -⟩ := okc_int (k := .i64) (by kernel_rfl) (e2 1 _ _ rfl rfl)
  obtain ⟨x2, rfl, -⟩ := okc_int (k := .i64) (by kernel_rfl) (e2 2 _ _ rfl rfl)
  obtain ⟨x3, rfl, -⟩ := okc_int (k := .i64) (by kernel_rfl) (e2 3 _ _ rfl rfl)
  obtain ⟨x4, rfl, h4⟩ := okc_int (k := .u64) (by kernel_rfl) (e2 4 _ _ rfl rfl)
  exact ⟨x0, x1, x2, x3, x4, rfl, h4.1, h4.2⟩
theorem K14.c {x0 x1 x2 x3 : Int} {k : Nat} {p : FPl} {h : Heap} {Q : QT} (e0 : IntKind.i64.wrap (1 + irem (imax 0 x0) 3) = p.R) (e1 : IntKind.i64.wrap (1 + irem (imax 0 x1) 5) = p.pl) (e2 : irem (imax 0 x2) 5 = p.ps) (e3 : IntKind.i64.wrap (1 + irem (imax 0 x3) 4) = p.psi) (ek : p.key = k) (hq : Q (fcfgV p) h) :
  CT 14 #[.agg #[.int .i64 x0, .int .i64 x1, .int .i64 x2, .int .i64 x3, .int .u64 (k : Nat)]] h Q := by
 apply K14.ok
 unfold K14.wp
 rw [e0, e1, e2, e3, ← ek]
 exact hq
end Go.Gb
namespace Go.Gb
open Go.Proofs IntWalk
end Go.Gb
namespace Go.Gb
open Go.Proofs IntWalk
end Go.Gb
namespace Go.Gb
open Go.Proofs IntWalk
theorem SpI.brk2 {p : Pl} {s : PmS} {l : List Nat} {k : Nat} (sp : SpI p s l) (hk : k < p.pa ∨ p.pa + tblN p ≤ k) : SpI p { s with bad := fset s.bad k true } l :=
 ⟨sp.ok, ⟨sp.on.off, sp.on.f0, sp.on.buf⟩, sp.en, fun t g1 g2 => by show fset s.bad k true t = false; unfold fset; rw [if_neg (by omega)]; exact sp.tb t g1 g2, sp.w.of rfl rfl⟩
theorem FI.brk {p : FPl} {x : FS} {k : Nat} (w : FI p x) (hk : ∀ r, r < p.R → k < (p.plan r).pa ∨ (p.plan r).pa + tblN (p.plan r).bk ≤ k) : FI p ⟨{ x.s with bad := fset x.s.bad k true }, x.l, x.g, x.n⟩ ∧ ∀ l, fr p ⟨{ x.s with bad := fset x.s.bad k true }, x.l, x.g, x.n⟩ l = fr p x l :=
 ⟨⟨w.ok, fun r hr => ((w.rg r hr).dev ((w.rg r hr).sp.brk2 (hk r hr)) rfl).1, w.hd⟩, fun _ => rfl⟩
end Go.Gb
namespace Go.Gb
open Go.Proofs IntWalk
section
variable {F : Nat → Prop} {Gs : Nat → Nat → Prop} {bs rs : Nat → Nat} {hc h0 h h1 : Heap} {d f : Nat} {p : FPl} {x : FS} {Q : Value → Heap → Prop} {s0 s1 A : ByteArray} {c0 c1 c2 : Int} {ka : Option Addr} {ks : List Bool} {kc : Nat}
theorem FI.fuse {n : Int} (w : FI p x) (hn : 0 ≤ n) : FI p ⟨{ x.s with fuse := n }, x.l, x.g, x.n⟩ ∧ ∀ l, fr p ⟨{ x.s with fuse := n }, x.l, x.g, x.n⟩ l = fr p x l :=
 ⟨⟨w.ok, fun r hr => by
  have sp := (w.rg r hr).sp
  exact ((w.rg r hr).dev (s' := { x.s with fuse := n }) ⟨sp.ok, ⟨sp.on.off, hn, sp.on.buf⟩, sp.en, sp.tb, sp.w.of rfl rfl⟩ rfl).1, w.hd⟩, fun _ => rfl⟩
end
end Go.Gb
namespace Go.Gb
open Go.Proofs IntWalk
section
variable {h0 h h1 h2 : Heap} {F : Nat → Prop} {Gs : Nat → Nat → Prop} {bs rs : Nat → Nat} {hc : Heap} {d f : Nat} {M : Nat → Prop} {qs : Nat → Nat} {hq0 : Heap} {m q : Nat} {p : FPl} {x x' : FS} {Q : QT}
 {a : Option Addr} {n cp : Nat} {N t : Int} {x0 x1 x2 x3 : Int} {xs : ByteArray} {ka : Option Addr} {kc : Nat} {ks : List Bool}
theorem K37.c {k : Nat} (w : FD F Gs bs rs hc h d f p x) (hk : k < p.R) (hq : Q (.int .u32 (x.g k).s2) h) : CT 37 #[.pointer (some ⟨f, 0, none⟩), .int .i64 (k : Int)] h Q := by
 obtain ⟨a1, c1, a2, c2, e0, e1, e2, e3, e4, e5, e6, r1, r2⟩ := w.cell
 have g := w.region hk
 apply K37.ok
 apply K90.ok
 refine xsIf_f rfl (xsIf_f (decide_eq_false (by omega)) ⟨f, 0, rfl, _, _, _, e5, xsIf_f (decide_eq_false (by omega)) ⟨f, 0, rfl, _, _, _, e5, by omega, ?_⟩⟩)
 refine reads_base r1 (by simp; omega) fun b1 o1 hc1 => ⟨some ⟨rs k, 0, none⟩, ?_, _, rfl, ?_⟩
 ·have := hc1 k (by simp; omega)
  rw [range_ptr hk] at this
  rw [show (k : Int).toNat * 1 = k * 1 by omega]; exact this
 ·exact K96.c g ⟨_, _, _, rfl, hq⟩
abbrev nF (p : FPl) : Int := ((1 + p.R * p.z : Nat) : Int)
abbrev GoF (h0 : Heap) (F M : Nat → Prop) (d m : Nat) (p : FPl) (nl : Nat) (a : Option Addr) (n cp : Nat) (N t : Int) (Q : QT) : Prop :=
 ∀ h' Gs bs rs hc f qs hq0 q x', T9 h0 h' F Gs bs rs hc d f M qs hq0 m q p x' → FI p x' → x'.s.nl = nl → K7.L12 (nF p) (some ⟨d, 0, none⟩) (some ⟨m, 0, none⟩) (some ⟨f, 0, none⟩) (some ⟨q, 0, none⟩) a n cp N (IntKind.i64.wrap (t + 1)) p.R p.pl p.ps p.psi p.key h' Q
theorem K7.L63.c (hq : GoF h0 F M d m p x.s.nl a n cp N t Q) (iv : FI p x) : ∀ (j k : Nat) (h : Heap), k + j = p.R → T9 h0 h F Gs bs rs hc d f M qs hq0 m q p x →
  K7.L63 (nF p) (some ⟨d, 0, none⟩) (some ⟨m, 0, none⟩) (some ⟨f, 0, none⟩) (some ⟨q, 0, none⟩) a n cp N t p.R (k : Int) p.R p.pl p.ps p.psi p.key h Q := by
 have r2 := iv.ok.r2
 intro j
 induction j with
 | zero =>
  intro k h hk i
  apply K7.L63.ok
  exact xsIf_f (decide_eq_false (by omega)) (hq h Gs bs rs hc f qs hq0 q x i iv rfl)
 | succ j ih =>
  intro k h hk i
  have hkR : k < p.R := by omega
  obtain ⟨a', c', e0, e1, e2, e3, e4, e5, r⟩ := i.qd.cell
  have g := i.qd.region hkR
  have gv := iv.rg k hkR
  apply K7.L63.ok
  refine xsIf_t (decide_eq_true (by omega)) ⟨q, 0, rfl, _, _, _, e5, by omega, ?_⟩
  refine reads_base r (by unfold ptrsOf; simp; omega) fun b1 o1 hc1 => ⟨some ⟨qs k, 0, none⟩, ?_, qs k, 0, rfl, _, g.c0, _, g.c1, _, g.c2, _, g.c3, K48.c (p := p.plan k) (x := x.at k) g.rf gv fun h1 p1 => ⟨_, _, _, _, rfl, ?_⟩⟩
  ·have := hc1 k (by unfold ptrsOf; simp; omega)
   unfold ptrsOf at this
   rw [range_ptr hkR] at this
   rw [show (k : Int).toNat * 1 = k * 1 by omega]; exact this
  ·have i1 := i.part p1
   have g0 : 0 ≤ (x.g k).s2 := gv.g.l
   have g1 : (x.g k).s2 < 4294967296 := gv.g.h
   have e : IntKind.u64.wrap (x.g k).s2 = (x.g k).s2 := by rw [u64_w]; omega
   refine K37.c i1.fd hkR ⟨_, rfl, xsIf_f (decide_eq_false (fun h => h e)) ?_⟩
   rw [show IntKind.i64.wrap ((k : Int) + 1) = ((k + 1 : Nat) : Int) by rw [i64_in _ (by omega)]; omega]
   exact ih (k + 1) h1 (by omega) i1
theorem K7.L55.c (hq : GoF h0 F M d m p x.s.nl a n cp N t Q) (iv : FI p x) : ∀ (j k : Nat) (h : Heap), k + j = p.R * p.pl → T9 h0 h F Gs bs rs hc d f M qs hq0 m q p x →
  K7.L55 (nF p) (some ⟨d, 0, none⟩) (some ⟨m, 0, none⟩) (some ⟨f, 0, none⟩) (some ⟨q, 0, none⟩) a n cp N t ((p.R * p.pl : Nat) : Int) (k : Int) p.R p.pl p.ps p.psi p.key h Q := by
 have hm : p.R * p.pl ≤ 16 * 1024 := Nat.mul_le_mul iv.ok.r2 iv.ok.l2
 intro j
 induction j with
 | zero =>
  intro k h hk i
  apply K7.L55.ok
  exact xsIf_f (decide_eq_false (by omega)) (K7.L63.c hq iv p.R 0 h (by omega) i)
 | succ j ih =>
  intro k h hk i
  apply K7.L55.ok
  refine xsIf_t (decide_eq_true (by omega)) (K25.c i.fd iv (by omega) ⟨_, _, rfl, K47.c i.qd iv (by omega) fun h1 p1 => ⟨_, _, rfl, xsIf_f rfl (xsIf_f (decide_eq_false (fun h => h rfl)) ?_)⟩⟩)
  rw [show IntKind.i64.wrap ((k : Int) + 1) = ((k + 1 : Nat) : Int) by rw [i64_in _ (by omega)]; omega]
  exact ih (k + 1) h1 (by omega) (i.part p1)
theorem K7.J54.c (hq : GoF h0 F M d m p x.s.nl a n cp N t Q) (iv : FI p x) (i : T9 h0 h F Gs bs rs hc d f M qs hq0 m q p x) :
  K7.J54 (nF p) (some ⟨d, 0, none⟩) (some ⟨m, 0, none⟩) (some ⟨f, 0, none⟩) (some ⟨q, 0, none⟩) a n cp N t p.R p.pl p.ps p.psi p.key h Q := by
 apply K7.J54.ok
 exact K24.c i.fd iv.ok ⟨_, rfl, K7.L55.c hq iv (p.R * p.pl) 0 h (by omega) i⟩
set_option maxRecDepth 100000 in
theorem K7.J44.c (i : T9 h0 h F Gs bs rs hc d f M qs hq0 m q p x) (st : StF p x) (hr : readsAt h0 ka (ks.map Value.bool)) (hkc : ks.length ≤ kc) (hq : GoF h0 F M d m p x.s.nl a n cp N t Q) :
  K7.J44 (nF p) (some ⟨d, 0, none⟩) (some ⟨m, 0, none⟩) (some ⟨f, 0, none⟩) (some ⟨q, 0, none⟩) true a n cp N t p.R p.pl p.ps p.psi p.key x0 x1 x2 x3 xs ka ks.length kc h Q := by
 apply K7.J44.ok
 refine xsIf_f rfl (K40.c i.fd.dv i.qd.rf st.ok ⟨_, rfl, xsIf_f rfl ?_⟩)
 apply K7.J46.ok
 have rf := i.qd.rf
 obtain ⟨wb, rb, bb, qq, w⟩ := rf
 refine ⟨m, 0, rfl, _, w.c4, xsIf_intro (fun ho => ?_) fun ho => ?_⟩
 ·have hm : imin (ks.length : Int) 30 = ((min ks.length 30 : Nat) : Int) := by rw [imin_eq]; omega
  rw [hm, slBase0, show (((min ks.length 30 : Nat) : Int) - 0).toNat = (ks.take 30).length by rw [List.length_take]; omega]
  have hb : ∃ x', x'.s = pboot x.s (ks.take 30) ∧ (∀ k, x'.n k = 0) ∧ FI p x' := by
   rcases st with st | st
   ·have := st.on.off; rw [ho] at this; cases this
   ·exact st.2.2 (ks.take 30)
  obtain ⟨y, ey, yn, iv⟩ := hb
  refine ⟨by omega, K30.c i.fd.dv i.fd.lf (bools_at (readsAt_part hr i.pt)) fun h1 w1 st1 => ?_⟩
  obtain ⟨_, a2⟩ := i.fd.dev w1 st1
  have o1 := i.over a2
  refine K46.c o1.rf o1.lm (bools_at (readsAt_part hr (a2.part i.pt i.ff))) fun h2 w2 st2 => ?_
  have i2 := i.dev w1 st1 w2 st2
  have d2 : PmD F h2 d y.s := by rw [ey]; exact i2.fd.dv
  refine K18.c d2 i2.fd.lf iv fun f' Gs' bs' rs' hc' h3 w3 fG fc p3 => ⟨_, _, rfl, xsIf_f rfl (xsIf_f rfl ?_)⟩
  apply K7.J53.ok
  obtain ⟨iv3, _⟩ := iv.new
  have rf3 : RfD M h3 m y.s := by rw [ey]; exact i2.qd.rf.keep fun _ _ hk => part_live p3 hk
  refine K41.c (x := ⟨y.s, y.l, y.g, fun _ => 0⟩) rf3 ((Step.of_part p3).dom i2.qd.lm) iv.ok.rt (fun _ => rfl) fun q' qs' hq' h4 w4 fq fh p4 => ⟨_, rfl, ?_⟩
  have i4 := T9.of_open i2.apd i2.qd.lm i2.pt (fun k hk hf => i2.ff k hk (.inl hf)) (fun k hk hf => i2.fm k hk (.inl hf)) w3 fG fc p3 w4 fq fh p4
  have enl : y.s.nl = x.s.nl := by rw [ey]; rfl
  exact K7.J54.c (x := ⟨y.s, y.l, y.g, fun _ => 0⟩) (by rw [show (⟨y.s, y.l, y.g, fun _ => 0⟩ : FS).s.nl = x.s.nl from enl]; exact hq) iv3 i4
 ·rcases st with st | st
  ·exact K7.J54.c hq st i
  ·rw [st.1] at ho; cases ho
theorem brk_ok {p : FPl} {j r : Nat} (hr : r < p.R) (h1 : (p.ps + 7) / 8 + r * p.z ≤ j) (h2 : j < r * p.z + p.z) : ∀ k, k < p.R → 1 + j < (p.plan k).pa ∨ (p.plan k).pa + tblN (p.plan k).bk ≤ 1 + j := fun k hk => by
 have ht : tblN (p.plan k).bk = (p.ps + 7) / 8 := rfl
 rw [ht, plan_pa]
 have hz : (p.ps + 7) / 8 ≤ p.z := by unfold FPl.z; omega
 rcases Nat.lt_trichotomy k r with h | h | h
 ·right
  have := mul_next (z := p.z) h
  omega
 ·subst h; right; omega
 ·left
  have := mul_next (z := p.z) h
  omega
set_option maxRecDepth 100000 in
theorem fplays_act {y : Act6} (i : T9 h0 h F Gs bs rs hc d f M qs hq0 m q p x) (iv : FI p x) (hnl : x.s.nl = 1 + p.R * p.z) (h1 : y.a2 < 9223372036854775808) (h3 : R64 y.a3) (hr : readsAt h0 y.ka (y.ks.map Value.bool)) (hkc : y.ks.length ≤ y.kc) (ht : 0 ≤ t ∧ t < N) (hn : t < n)
  (hcl : ∀ K, (∀ b o, h.cell b (o + t.toNat * 6) = some (.int .i64 y.a0) → h.cell b (o + t.toNat * 6 + 1) = some (.int .i64 y.a1) → h.cell b (o + t.toNat * 6 + 1 + 1) = some (.int .i64 y.a2) → h.cell b (o + t.toNat * 6 + 1 + 1 + 1) = some (.int .u64 y.a3) →
   h.cell b (o + t.toNat * 6 + 1 + 1 + 1 + 1) = some (.string y.s) → h.cell b (o + t.toNat * 6 + 1 + 1 + 1 + 1 + 1) = some (.slice y.ka y.ks.length y.kc) → K b o) → atBase a K)
  (hq : GoF h0 F M d m p x.s.nl a n cp N t Q) :
  K7.L12 (nF p) (some ⟨d, 0, none⟩) (some ⟨m, 0, none⟩) (some ⟨f, 0, none⟩) (some ⟨q, 0, none⟩) a n cp N t p.R p.pl p.ps p.psi p.key h Q := by
 apply K7.L12.ok
 refine xsIf_t (decide_eq_true ht.2) ⟨⟨ht.1, hn⟩, hcl _ fun b0 o k0 k1 k2 k3 k4 k5 => ⟨_, k0, _, k1, _, k2, _, k3, _, k4, _, _, _, k5, by rw [imin_eq]; omega, ?_⟩⟩
 have hb : (sext y.s 0 (imin (y.s.size : Int) 80)).size ≤ 80 := by
  have := sext_le y.s (imin (y.s.size : Int) 80)
  rw [imin_eq] at this ⊢
  omega
 generalize sext y.s 0 (imin (y.s.size : Int) 80) = S at hb
 have on := iv.on
 have pm := iv.pm
 have nx : ∀ h' x', T9 h0 h' F Gs bs rs hc d f M qs hq0 m q p x' → StF p x' → x'.s.nl = x.s.nl → K7.J44 (nF p) (some ⟨d, 0, none⟩) (some ⟨m, 0, none⟩) (some ⟨f, 0, none⟩) (some ⟨q, 0, none⟩) true a n cp N t p.R p.pl p.ps p.psi p.key y.a0 y.a1 y.a2 y.a3 y.s y.ka y.ks.length y.kc h' Q := fun h' x' i' st' e => K7.J44.c i' st' hr hkc (by rw [e]; exact hq)
 have same1 : ∀ {x : Int}, decide (x = x) = true := decide_eq_true rfl
 refine xsIf_intro (fun _ => ?_) fun _ => xsIf_intro (fun _ => ?_) fun _ => xsIf_intro (fun _ => ?_) fun _ => xsIf_intro (fun _ => ?_) fun _ => xsIf_intro (fun _ => ?_) fun _ => xsIf_intro (fun _ => ?_) fun _ => xsIf_intro (fun _ => ?_) fun _ => nx h x i (.inl iv) rfl
 ·refine K19.c (by omega) ⟨_, rfl, K20.c i.fd iv fun h1 w1 st1 => ⟨_, rfl, K19.c (by omega) ⟨_, rfl, K42.line (i.over st1) iv (by omega) fun h2 w2 st2 => ⟨_, rfl, ?_⟩⟩⟩⟩
  rw [same1]
  obtain ⟨s1, s2⟩ := fWrite_st iv y.a1 (fullB S)
  exact nx h2 _ (i.next w1 st1 w2 st2) s1 s2
 ·refine K20.c i.fd iv fun h1 w1 st1 => ⟨_, rfl, K42.line (i.over st1) iv (by omega) fun h2 w2 st2 => ⟨_, rfl, ?_⟩⟩
  rw [same1]
  obtain ⟨s1, s2⟩ := fWrite_st iv y.a1 S
  exact nx h2 _ (i.next w1 st1 w2 st2) s1 s2
 ·unfold R64 at h3
  have e3 : y.a3 = ((y.a3.toNat : Nat) : Int) := by omega
  have hv : y.a3.toNat < 18446744073709551616 := by omega
  have word : ∀ k : Int, 0 ≤ k → K7.J25 (nF p) (some ⟨d, 0, none⟩) (some ⟨m, 0, none⟩) (some ⟨f, 0, none⟩) (some ⟨q, 0, none⟩) k a n cp N t p.R p.pl p.ps p.psi p.key y.a0 y.a1 y.a2 y.a3 y.s y.ka y.ks.length y.kc h Q := by
   intro k hk
   apply K7.J25.ok
   unfold K7.J25.wp
   rw [e3] at nx ⊢
   generalize y.a3.toNat = v at nx hv
   refine K21.c hv i.fd iv fun h1 w1 st1 => ⟨_, rfl, K42.word hk hv (i.over st1) iv fun h2 w2 st2 => ⟨_, rfl, ?_⟩⟩
   rw [same1]
   obtain ⟨s1, s2⟩ := fWriteWord_st iv y.a1 k hv
   exact nx h2 _ (i.next w1 st1 w2 st2) s1 s2
  exact xsIf_intro (fun _ => word 8 (by omega)) fun e => word y.a2 (by have := of_decide_eq_false e; omega)
 ·refine K22.c i.fd iv (fun g0 g1 => ⟨_, _, rfl, K43.c i.qd iv (fun _ _ h2 p2 => ⟨_, _, rfl, xsIf_t (decide_eq_true rfl) ?_⟩) fun hn => absurd ⟨g0, g1⟩ hn⟩) fun hn => ⟨_, _, rfl, K43.c i.qd iv (fun g0 g1 => absurd ⟨g0, g1⟩ hn) fun _ => ⟨_, _, rfl, xsIf_t (decide_eq_true rfl) ?_⟩⟩
  ·rw [same1]; exact nx h2 x (i.part p2) (.inl iv) rfl
  ·rw [same1]; exact nx h x i (.inl iv) rfl
 ·have r1 := iv.ok.r1
  have hz := FPl.z_le iv.ok.rt
  have hz1 : 1 ≤ p.z := by unfold FPl.z; omega
  have hps := iv.ok.s2
  have hm : p.R * p.z ≤ 16 * 1098 := Nat.mul_le_mul iv.ok.r2 hz
  have hm1 : 1 * 1 ≤ p.R * p.z := Nat.mul_le_mul r1 hz1
  have en : IntKind.i64.wrap (nF p - 1) = ((p.R * p.z : Nat) : Int) := by unfold nF; rw [i64_in _ (by omega)]; omega
  have eqz : iquo .i64 ((p.R * p.z : Nat) : Int) (p.R : Int) = ((p.z : Nat) : Int) := by
   rw [iquo_i64 (by omega) (by omega) (by omega), show ((p.R * p.z : Nat) : Int) / (p.R : Int) = ((p.R * p.z / p.R : Nat) : Int) from rfl, Nat.mul_div_cancel_left _ (by omega)]
  obtain ⟨j, hj⟩ := imax0 y.a1
  rw [en, hj, irem_nat, eqz]
  have hlt : j % (p.R * p.z) < p.R * p.z := Nat.mod_lt _ (by omega)
  generalize j % (p.R * p.z) = j at hlt
  have ek : IntKind.i64.wrap (1 + ((j : Nat) : Int)) = ((1 + j : Nat) : Int) := by rw [i64_in _ (by omega)]; omega
  have ej : IntKind.i64.wrap (((1 + j : Nat) : Int) - 1) = ((j : Nat) : Int) := by rw [i64_in _ (by omega)]; omega
  have er : iquo .i64 ((j : Nat) : Int) ((p.z : Nat) : Int) = ((j / p.z : Nat) : Int) := by
   rw [iquo_i64 (by omega) (by omega) (by omega)]; rfl
  have hrR : j / p.z < p.R := (Nat.div_lt_iff_lt_mul (by omega)).2 hlt
  have hdm := Nat.div_add_mod j p.z
  have hml := Nat.mod_lt j (show 0 < p.z by omega)
  rw [Nat.mul_comm] at hdm
  rw [ek, ej, er]
  generalize j / p.z = r at hrR hdm
  have et : iquo .i64 (IntKind.i64.wrap ((p.ps : Int) + 7)) 8 = (((p.ps + 7) / 8 : Nat) : Int) := by
   rw [i64_in _ (by omega), iquo_i64 (by omega) (by omega) (by omega)]
   omega
  have hrz : r * p.z + p.z ≤ p.R * p.z := mul_next hrR
  have ew : IntKind.i64.wrap ((((p.plan r).pa : Nat) : Int) + (((p.ps + 7) / 8 : Nat) : Int)) = ((1 + r * p.z + (p.ps + 7) / 8 : Nat) : Int) := by
   rw [plan_pa, i64_in _ (by omega)]; omega
  rw [et]
  refine ⟨by omega, by omega, by omega, both (K44.c iv.ok.rt (by have := iv.ok.r2; omega) ⟨_, _, _, _, rfl, ?_⟩)⟩
  rw [ew]
  refine xsIf_intro (fun e => ?_) fun _ => nx h x i (.inl iv) rfl
  have e := of_decide_eq_true e
  refine K26.c i.fd.dv fun h1 w1 st1 => ?_
  rw [if_pos (show (0 : Int) ≤ ((1 + j : Nat) : Int) ∧ ((1 + j : Nat) : Int) < (x.s.nl : Int) by omega)] at w1
  obtain ⟨_, a2⟩ := i.fd.dev w1 st1
  have rf := (i.over a2).rf
  obtain ⟨wb, rb, bb, qq, w'⟩ := rf
  refine ⟨m, 0, rfl, _, _, _, w'.c2, by omega, bb, 0, rfl, w'.hb.can (by simp; omega), ?_⟩
  have rf2 : RfD M (h1.put bb (0 + ((1 + j : Nat) : Int).toNat * 1) [.bool true]) m { x.s with bad := fset x.s.bad ((1 + j : Nat) : Int).toNat true } := by
   have hk : ∀ k, k ≠ bb → h1.put bb (0 + ((1 + j : Nat) : Int).toNat * 1) [.bool true] k = h1 k := fun k hk => put_other h1 _ _ hk
   have ne := w'.ne
   refine ⟨wb, rb, bb, qq, w'.lo, w'.hi, w'.fm, w'.fw, w'.fr, w'.fb, ne, w'.hm.keep (hk _ ne.2.2.1), w'.hw.keep (hk _ ne.2.2.2.2.1), w'.hr.keep (hk _ ne.2.2.2.2.2), ?_, w'.rel, w'.f0, w'.f1⟩
   exact w'.hb.bset
  rw [Int.toNat_natCast] at w1 rf2 ⊢
  exact nx _ _ (i.dev w1 st1 rf2 (Step.put w'.fb _ _)) (.inl (iv.brk (k := 1 + j) (brk_ok hrR (by omega) (by omega))).1) rfl
 ·refine K29.c i.fd.dv h1 fun h2 w1 st1 => ?_
  obtain ⟨_, a2⟩ := i.fd.dev w1 st1
  have rf := (i.over a2).rf
  obtain ⟨wb, rb, bb, qq, w⟩ := rf
  have b1 := w.hm.put (0 + 3) [.int .i64 (imax y.a2 0)]
  refine ⟨m, 0, rfl, w.hm.can (by simp), ?_⟩
  have w2 := w.own (f := imax y.a2 0) (o := x.s.off) (n := x.s.count) b1 (fun k hk => put_other _ _ _ hk) (by rw [imax_eq]; omega) (by rw [imax_eq]; omega)
  exact nx _ _ (i.dev w1 st1 ⟨wb, rb, bb, qq, w2⟩ (Step.put w.fm _ _)) (.inl (iv.fuse (n := imax y.a2 0) (by rw [imax_eq]; omega)).1) rfl
 ·have rf := i.qd.rf
  obtain ⟨wb, rb, bb, qq, w⟩ := rf
  have b1 := w.hm.put (0 + 4) [.bool true]
  refine ⟨m, 0, rfl, w.hm.can (by simp), ?_⟩
  have w2 := w.own (f := x.s.fuse) (o := true) (n := x.s.count) b1 (fun k hk => put_other _ _ _ hk) on.f0 w.f1
  generalize hh1 : h.put m (0 + 4) [.bool true] = h1 at b1 w2
  have stm : Step M h M h1 := by rw [← hh1]; exact Step.put w.fm _ _
  have wd1 : PmD F h1 d x.s := i.fd.dv.keep (stm.same i.apd.symm)
  have lf1 : Live F h1 := stm.alive i.fd.lf
  refine K29.c wd1 (by omega) fun h2 w3 st3 => K45.c w3 (st3.dom lf1) fun h3 w4 st4 => ⟨_, rfl, ?_⟩
  have ef : pfence { x.s with fuse := imax 1 0 } = (6, { x.s with fuse := 0, off := true }) := by
   unfold pfence
   rw [pbegin_fails (s := { x.s with fuse := imax 1 0 }) on.off (by show imax 1 0 = 1; rw [imax_eq]; omega) (by omega) (by omega)]
   rfl
  rw [ef] at w4
  have st34 := st3.trans st4
  have w5 := w2.keep (st34.same i.apd)
  have b2 := w5.hm.put (0 + 3) [.int .i64 0]
  refine ⟨m, 0, rfl, w5.hm.can (by simp), ?_⟩
  have w6 := w5.own (f := 0) (o := true) (n := x.s.count) b2 (fun k hk => put_other _ _ _ hk) (by omega) (by omega)
  have st5 : Step M h3 M (h3.put m (0 + 3) [.int .i64 0]) := Step.put w5.fm _ _
  have wd6 : PmD F (h3.put m (0 + 3) [.int .i64 0]) d { x.s with fuse := 0, off := true } := w4.keep (st5.same i.apd.symm)
  refine nx _ ⟨{ x.s with fuse := 0, off := true }, x.l, x.g, x.n⟩ (i.mix wd6 ⟨wb, rb, bb, qq, w6⟩ ((stm.right.trans st34.left).trans st5.right)) (.inr ⟨rfl, pm.of rfl rfl, fun ks => ?_⟩) rfl
  obtain ⟨iv2, _⟩ := iv.boot ks
  rw [pboot_on on] at iv2
  have e : pboot { x.s with fuse := 0, off := true } ks = { x.s with buf := fun _ => none, off := false, fuse := 0 } := by
   unfold pboot
   rw [show pend { x.s with fuse := 0, off := true } = [] from pend_none on.buf]
   show { Gb.plast { x.s with fuse := 0, off := true } [] with buf := fun _ => none, off := false, fuse := 0 } = _
   rw [plast_nil]
  exact ⟨_, e.symm, fun _ => rfl, iv2⟩
end
end Go.Gb
namespace Go.Gb
open Go.Proofs IntWalk
set_option maxRecDepth 100000 in
theorem K7.law (cs : List Value) (v : Value) (h : Heap) (hc : Okc Tryz.prog h 8 24 cs) (hv : Okc Tryz.prog h 8 25 [v]) :
  CT 7 #[.agg cs.toArray, v] h fun v h' => v = .bool true ∧ Part h h' := by
 obtain ⟨y0, y1, y2, y3, y4, rfl, ky⟩ := okc_cfg hc
 obtain ⟨a, n, c, dss, rfl, hnc, hcm, hl, hb, hr⟩ := okc_slice (e := 42) (sz := 6) (by kernel_rfl) (by kernel_rfl) (by omega) hv
 obtain ⟨acts, rfl, hacts⟩ := typed (f := Act6.row) (p := fun x => x.a2 < 9223372036854775808 ∧ R64 x.a3 ∧ readsAt h x.ka (x.ks.map Value.bool) ∧ x.ks.length ≤ x.kc) dss (fun ds hds => by
  obtain ⟨h1, h2⟩ := hb ds hds
  obtain ⟨e1, e2⟩ := okc_each (d := 2) 5 42 [3, 3, 3, 22, 9, 40] ds (by kernel_rfl) h2 (by rw [h1]; rfl)
  match ds, h1 with
  | [p, q, r, s, u, v], _ =>
   obtain ⟨x0, rfl, -⟩ := okc_int (k := .i64) (by kernel_rfl) (e2 0 _ _ rfl rfl)
   obtain ⟨x1, rfl, -⟩ := okc_int (k := .i64) (by kernel_rfl) (e2 1 _ _ rfl rfl)
   obtain ⟨x2, rfl, h3⟩ := okc_int (k := .i64) (by kernel_rfl) (e2 2 _ _ rfl rfl)
   obtain ⟨x3, rfl, h7⟩ := okc_int (k := .u64) (by kernel_rfl) (e2 3 _ _ rfl rfl)
   obtain ⟨x4, rfl, -⟩ := okc_str (by kernel_rfl) (e2 4 _ _ rfl rfl)
   obtain ⟨ka, kn, kc, ks, rfl, h4, h5, rfl, h6⟩ := okc_bools (d := 0) (e := 4) (by kernel_rfl) (by kernel_rfl) (by kernel_rfl) (e2 5 _ _ rfl rfl)
   have h3 : x2 ≤ 9223372036854775807 := h3.2
   have h70 : 0 ≤ x3 := h7.1
   have h71 : x3 ≤ 18446744073709551615 := h7.2
   exact ⟨⟨x0, x1, x2, x3, x4, ka, kc, ks⟩, rfl, by show x2 < 9223372036854775808; omega, ⟨h70, by show x3 < _; omega⟩, h6, h4⟩)
 rw [List.length_map] at hl
 rw [← List.flatMap_def] at hr
 obtain ⟨ky', rfl⟩ : ∃ q : Nat, y4 = q := ⟨y4.toNat, by omega⟩
 obtain ⟨p, pr, p1, p2, p3, p4, pk, e0, e1, e2, e3⟩ := small_fpl y0 y1 y2 y3 (key := ky') (by omega)
 have sz := small_size p1 p2 p3
 have ok := pr.ok (by omega)
 obtain ⟨s, em, iv, sd, nl, z⟩ := fmake_new ok
 apply K7.ok
 refine K14.c e0 e1 e2 e3 pk ⟨_, _, _, _, _, rfl, K33.c pr ⟨_, rfl, ?_⟩⟩
 refine K15.c (n := 1 + p.R * p.z) (by omega) (by omega) fun d F ha wd fd ld pa => ⟨_, _, rfl, K38.c (n := 1 + p.R * p.z) (by omega) (by omega) fun m M hm wm fm lm pm => ⟨_, rfl, K23.c fun h2 p2' => ⟨_, rfl, xsIf_f rfl ?_⟩⟩⟩
 have apM : Apart F M := fun k hk hf => ld k hf (fm k hk)
 have pm2 := pm.trans p2'
 have wd2 : PmD F h2 d (pnew (1 + p.R * p.z)) := wd.keep fun _ _ hk => part_live pm2 hk
 have wm2 : RfD M h2 m (pnew (1 + p.R * p.z)) := wm.keep fun _ _ hk => part_live p2' hk
 have ld2 : Live F h2 := (Step.of_part pm2).dom ld
 have lm2 : Live M h2 := (Step.of_part p2').dom lm
 have hMake := fun {Q : QT} hq => K17.c (Q := Q) (p := p) wd2 ld2 ok (On.new _) (PmOk.new _) (fun _ => rfl) hq
 refine hMake fun h3 w3 st3 => ⟨_, rfl, ?_⟩
 have wm3 := wm2.keep (st3.same apM)
 have hRef := fun {Q : QT} hq => K39.c (Q := Q) (p := p) wm3 (st3.alive lm2) ok (On.new _) (PmOk.new _) (fun _ => rfl) hq
 refine hRef fun h4 w4 st4 => ⟨_, rfl, ?_⟩
 rw [em] at w3 w4 ⊢
 have wd4 : PmD F h4 d s := w3.keep (st4.same apM.symm)
 have ld4 : Live F h4 := st4.alive (st3.dom ld2)
 have lm4 : Live M h4 := st4.dom (st3.alive lm2)
 have fF : ∀ k, h k ≠ none → ¬ F k := fun k hk hf => hk (fd k hf)
 have fM : ∀ k, h k ≠ none → ¬ M k := fun k hk hf => by
  have := fm k hf
  rw [part_live pa hk] at this; exact hk this
 have P4 : Part h h4 := st4.part (st3.part (pa.trans pm2) fF) fM
 refine xsIf_f rfl (K40.c wd4 w4 iv.pm ⟨_, rfl, xsIf_f rfl ?_⟩)
 apply K7.J7.ok
 refine K18.c (p := p) (x := FS.zero p s) wd4 ld4 iv fun f Gs bs rs hc h5 w5 fG fc p5 => ⟨_, _, rfl, ?_⟩
 obtain ⟨iv5, z5⟩ := iv.new
 have rf5 : RfD M h5 m s := w4.keep fun _ _ hk => part_live p5 hk
 refine K41.c (x := ⟨s, fun _ => [], fun _ => Gp.first p.pl, fun _ => 0⟩) rf5 ((Step.of_part p5).dom lm4) pr (fun _ => rfl) fun q qs hq h6 w6 fq fh p6 => ⟨_, rfl, xsIf_f rfl (xsIf_f rfl ?_)⟩
 have i6 := T9.of_open apM lm4 P4 fF fM w5 fG fc p5 w6 fq fh p6
 apply K7.J11.ok
 unfold K7.J11.wp
 have hmn : imin (n : Int) 25 = ((min n 25 : Nat) : Int) := by rw [imin_eq]; omega
 rw [hmn, slBase0]
 refine ⟨by omega, ?_⟩
 have g1 : (((min n 25 : Nat) : Int) - 0).toNat = min n 25 := by omega
 rw [g1]
 have loop : ∀ (jj j : Nat) (h' : Heap) (Gs : Nat → Nat → Prop) (bs rs : Nat → Nat) (hc : Heap) (f : Nat) (qs : Nat → Nat) (hq0 : Heap) (q : Nat) (x' : FS), j + jj = min n 25 → T9 h h' F Gs bs rs hc d f M qs hq0 m q p x' → FI p x' → x'.s.nl = 1 + p.R * p.z →
   K7.L12 (nF p) (some ⟨d, 0, none⟩) (some ⟨m, 0, none⟩) (some ⟨f, 0, none⟩) (some ⟨q, 0, none⟩) a (min n 25) ((c : Int) - 0).toNat ((min n 25 : Nat) : Int) j p.R p.pl p.ps p.psi p.key h' fun v h' => v = .bool true ∧ Part h h' := by
  intro jj
  induction jj with
  | zero =>
   intro j h' Gs bs rs hc f qs hq0 q x' hj i iv e
   apply K7.L12.ok
   exact xsIf_f (decide_eq_false (by omega)) ⟨rfl, i.pt⟩
  | succ jj ih =>
   intro j h' Gs bs rs hc f qs hq0 q x' hj i iv e
   have hjl : j < acts.length := by omega
   have hg : acts[j]? = some acts[j] := List.getElem?_eq_getElem hjl
   obtain ⟨ha1, ha2, ha3, ha4⟩ := hacts _ (List.getElem_mem hjl)
   refine fplays_act (y := acts[j]) i iv e ha1 ha2 ha3 ha4 (by omega) (by omega) (fun K hK => ?_) fun h2 Gs2 bs2 rs2 hc2 f2 qs2 hq2 q2 x2 i2 iv2 e2 => ?_
   ·refine reads_base (readsAt_part hr i.pt) (by rw [flat_length Act6.row_length]; omega) fun b o hcell => ?_
    have key : ∀ q, q < 6 → h'.cell b (o + (j * 6 + q)) = (acts[j].row)[q]? := fun q hq => by
     have := hcell (j * 6 + q) (by rw [flat_length Act6.row_length]; omega)
     rw [Nat.mul_one, flat_get Act6.row_length acts j q _ hg hq] at this
     exact this
    refine hK b o ?_ ?_ ?_ ?_ ?_ ?_
    ·rw [Int.toNat_natCast]; exact key 0 (by omega)
    ·rw [Int.toNat_natCast]; exact key 1 (by omega)
    ·rw [Int.toNat_natCast]; exact key 2 (by omega)
    ·rw [Int.toNat_natCast]; exact key 3 (by omega)
    ·rw [Int.toNat_natCast]; exact key 4 (by omega)
    ·rw [Int.toNat_natCast]; exact key 5 (by omega)
   ·rw [show IntKind.i64.wrap ((j : Int) + 1) = ((j + 1 : Nat) : Int) by rw [i64_in _ (by omega)]; omega]
    exact ih (j + 1) h2 Gs2 bs2 rs2 hc2 f2 qs2 hq2 q2 x2 (by omega) i2 iv2 (e2.trans e)
 exact loop (min n 25) 0 h6 Gs bs rs hc f qs hq q _ (by omega) i6 iv5 nl
end Go.Gb
