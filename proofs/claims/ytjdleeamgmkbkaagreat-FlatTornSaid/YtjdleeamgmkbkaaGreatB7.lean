/- Own texts for the seat: Ft2 Ft3. -/
import Derived.Test.YtjdleeamgmkbkaaGreatB6
set_option linter.unusedVariables false
set_option linter.unusedSimpArgs false
set_option linter.unnecessarySimpa false
set_option linter.deprecated false
namespace Go.Gb
open Go.Proofs IntWalk

/-! ## FlatTorn: the law -/

section
variable {F : Nat → Prop} {Gs : Nat → Nat → Prop} {bs rs : Nat → Nat} {hc h0 h h1 : Heap} {d f : Nat} {p : FPl} {x : FS} {Q : Value → Heap → Prop} {s0 s1 A : ByteArray} {c0 c1 c2 : Int} {ka : Option Addr} {ks : List Bool} {kc : Nat}

theorem gabionlaw09_FlatTorn.L38.c {l : Nat} {e : Int} (w : FD F Gs bs rs hc h d f p x) (iv : FI p x) (hs0 : s0.size ≤ 140737488351232) (hs1 : s1.size ≤ 140737488351232) (hl : l < p.R * p.pl) (ro : ∀ j, j < p.R * p.pl → j ≠ l → fr p x j = fullB s0) (lf : Lf (fullB s0) (fullB s1) (fr p x l) 0 e)
    (hq : Q (.bool true) h) : ∀ (j k : Nat), k + j = p.R * p.pl → gabionlaw09_FlatTorn.L38 (some ⟨f, 0, none⟩) (l : Int) e ((p.R * p.pl : Nat) : Int) (k : Int) s0 s1 h Q := by
  have nes : ∀ {x : ByteArray}, decide (x ≠ x) = false := decide_eq_false (fun h => h rfl)
  have hm : p.R * p.pl ≤ 16 * 1024 := Nat.mul_le_mul iv.ok.r2 iv.ok.l2
  intro j
  induction j with
  | zero =>
    intro k hk
    apply gabionlaw09_FlatTorn.L38.ok
    exact xsIf_f (decide_eq_false (by omega)) hq
  | succ j ih =>
    intro k hk
    have nx : gabionlaw09_FlatTorn.L38 (some ⟨f, 0, none⟩) (l : Int) e ((p.R * p.pl : Nat) : Int) (IntKind.i64.wrap ((k : Int) + 1)) s0 s1 h Q := by
      rw [show IntKind.i64.wrap ((k : Int) + 1) = ((k + 1 : Nat) : Int) by rw [i64_in _ (by omega)]; omega]
      exact ih (k + 1) (by omega)
    apply gabionlaw09_FlatTorn.L38.ok
    refine xsIf_t (decide_eq_true (by omega)) (flat_Flat_Read.c w iv (fun _ _ => ⟨_, _, rfl, xsIf_f rfl ?_⟩) fun hn => absurd ⟨by omega, by omega⟩ hn)
    rw [Int.toNat_natCast]
    by_cases hkl : k = l
    · subst hkl
      refine xsIf_f (decide_eq_false (fun h => h rfl)) (xsIf_t (decide_eq_true rfl) (gabionlaw09_full.c hs0 ⟨_, rfl, gabionlaw09_full.c hs1 ⟨_, rfl, line_Mixed.c (fun _ => ⟨_, rfl, xsIf_f rfl ?_⟩) fun hn => absurd (lf.t0 rfl) hn⟩⟩))
      exact xsIf_intro (fun e0 => gabionlaw09_full.c hs1 ⟨_, rfl, xsIf_f (by rw [lf.z0 (of_decide_eq_true e0)]; exact nes) nx⟩) fun _ => nx
    · refine xsIf_t (decide_eq_true (by omega)) (gabionlaw09_full.c hs0 ⟨_, rfl, xsIf_f (by rw [ro k (by omega) hkl]; exact nes) (xsIf_f (decide_eq_false (by omega)) nx)⟩)

theorem FI.fuse {n : Int} (w : FI p x) (hn : 0 ≤ n) : FI p ⟨{ x.s with fuse := n }, x.l, x.g, x.n⟩ ∧ ∀ l, fr p ⟨{ x.s with fuse := n }, x.l, x.g, x.n⟩ l = fr p x l :=
  ⟨⟨w.ok, fun r hr => by
    have sp := (w.rg r hr).sp
    exact ((w.rg r hr).dev (s' := { x.s with fuse := n }) ⟨sp.ok, ⟨sp.on.off, hn, sp.on.buf⟩, sp.en, sp.tb, sp.w.of rfl rfl⟩ rfl).1, w.hd⟩, fun _ => rfl⟩

theorem gabionlaw09_FlatTorn.L22.c (hr : readsAt h0 ka (ks.map Value.bool)) (hs0 : s0.size ≤ 140737488351232) (hs1 : s1.size ≤ 140737488351232) (hc0 : 0 ≤ c0 ∧ c0 ≤ 65535) (hc2 : 0 ≤ c2 ∧ c2 ≤ 65535)
    (hq : ∀ h', Part h0 h' → Q (.bool true) h') : ∀ (j k : Nat) (h : Heap) (x : FS), k + j = p.R * p.pl → Lq h0 h F Gs bs rs hc d f p x → FI p x → Sd x.s → (∀ i, i < p.R * p.pl → fr p x i = if i < k then fullB s0 else zero64) →
      gabionlaw09_FlatTorn.L22 (some ⟨d, 0, none⟩) ka ks.length kc (some ⟨f, 0, none⟩) ((p.R * p.pl : Nat) : Int) (k : Int) s0 s1 c0 c1 c2 h Q := by
  have nes : ∀ {x : ByteArray}, decide (x ≠ x) = false := decide_eq_false (fun h => h rfl)
  intro j
  induction j with
  | zero =>
    intro k h x hk i iv sd r
    have hm : p.R * p.pl ≤ 16 * 1024 := Nat.mul_le_mul iv.ok.r2 iv.ok.l2
    have hm1 : 1 * 1 ≤ p.R * p.pl := Nat.mul_le_mul iv.ok.r1 iv.ok.l1
    apply gabionlaw09_FlatTorn.L22.ok
    refine xsIf_f (decide_eq_false (by omega)) (flat_Flat_Lines.c i.fd iv.ok ⟨_, rfl, by omega, ?_⟩)
    rw [show IntKind.i64.wrap (1 + IntKind.i64.wrap (irem c0 50)) = 1 + c0 % 50 by rw [irem_pos hc0.1, i64_in (c0 % 50) (by omega), i64_in _ (by omega)]]
    refine pm_Device_Fuse.c i.fd.dv (by omega) fun h1 w1 st1 => gabionlaw09_full.c hs1 ⟨_, rfl, ?_⟩
    have i1 := i.dev w1 st1
    obtain ⟨iv1, f1⟩ := iv.fuse (n := imax (1 + c0 % 50) 0) (by rw [imax_eq]; omega)
    obtain ⟨l, hl⟩ : ∃ l : Nat, c2 = l := ⟨c2.toNat, by omega⟩
    subst hl
    have el : irem (IntKind.i64.wrap (l : Int)) ((p.R * p.pl : Nat) : Int) = ((l % (p.R * p.pl) : Nat) : Int) := by
      rw [i64_in _ (by omega)]; exact irem_nat _ _
    have hlt : l % (p.R * p.pl) < p.R * p.pl := Nat.mod_lt _ (by omega)
    rw [el]
    generalize l % (p.R * p.pl) = l at hlt
    have hB := fullB_size s1
    have r1 : ∀ i, i < p.R * p.pl → fr p ⟨{ x.s with fuse := imax (1 + c0 % 50) 0 }, x.l, x.g, x.n⟩ i = fullB s0 := fun i hi => by rw [f1, r i hi, if_pos (by omega)]
    have nb1 : Nb (FS.s ⟨{ x.s with fuse := imax (1 + c0 % 50) 0 }, x.l, x.g, x.n⟩) := sd.nb
    generalize (⟨{ x.s with fuse := imax (1 + c0 % 50) 0 }, x.l, x.g, x.n⟩ : FS) = y at i1 iv1 r1 nb1
    have o := fWrite_out iv1 hlt hB
    refine flat_Flat_Write.c i1.fd iv1 fun h2 w2 st2 => ⟨_, rfl, ?_⟩
    have i2 := i1.next w2 st2
    refine pm_Device_Boot.c i2.fd.dv i2.fd.lf (bools_full (readsAt_part hr i2.pt)) fun h3 w3 st3 => ?_
    obtain ⟨x', ex, iv', ro, lf⟩ := o.torn hlt hB ks
    rw [← ex] at w3
    have P3 : Part h0 h3 := st3.part i2.pt fun k hk hf => i2.ff k hk (.inl hf)
    refine flat_Open.c w3 (st3.dom i2.fd.lf) iv' fun f' Gs' bs' rs' hc' h4 w4 fG fc p4 => ⟨_, _, rfl, xsIf_f rfl (xsIf_f rfl ?_)⟩
    obtain ⟨iv4, z4⟩ := iv'.new
    have fin : gabionlaw09_FlatTorn.J37 (some ⟨f', 0, none⟩) (l : Int) (fWrite p y (l : Int) (fullB s1)).1 s0 s1 h4 Q := by
      apply gabionlaw09_FlatTorn.J37.ok
      refine flat_Flat_Lines.c w4 iv4.ok ⟨_, rfl, ?_⟩
      refine gabionlaw09_FlatTorn.L38.c w4 iv4 hs0 hs1 hlt (fun j hj hne => ?_) ?_ (hq h4 (P3.trans p4)) (p.R * p.pl) 0 (by omega)
      · rw [z4, ro j hj hne, r1 j hj]
      · rw [z4]; rw [r1 l hlt] at lf; exact lf
    have h10 : (fWrite p y (l : Int) (fullB s1)).1 ≠ 10 := by
      rcases fWrite_nb iv1 nb1 hlt hB with e | e <;> rw [e] <;> decide
    rcases lf.f3 with e | e | e
    · rw [e] at fin ⊢
      exact xsIf_f rfl fin
    · exact absurd e h10
    · rw [e] at fin ⊢
      exact xsIf_t rfl (xsIf_f rfl fin)
  | succ j ih =>
    intro k h x hk i iv sd r
    have hm : p.R * p.pl ≤ 16 * 1024 := Nat.mul_le_mul iv.ok.r2 iv.ok.l2
    apply gabionlaw09_FlatTorn.L22.ok
    refine xsIf_t (decide_eq_true (by omega)) (flat_Flat_Read.c i.fd iv (fun _ _ => ⟨_, _, rfl, xsIf_f rfl (gabionlaw09_full.c (by decide) ⟨_, rfl, xsIf_f ?_ ?_⟩)⟩) fun hn => absurd ⟨by omega, by omega⟩ hn)
    · rw [Int.toNat_natCast, r k (by omega), if_neg (by omega), fullB_nil]; exact nes
    apply gabionlaw09_FlatTorn.J27.ok
    obtain ⟨x', e1, iv', sd', nl', r'⟩ := fWrite_sound iv sd (l := k) (by omega) (fullB_size s0)
    refine gabionlaw09_full.c hs0 ⟨_, rfl, flat_Flat_Write.c i.fd iv fun h1 w1 st1 => ⟨_, rfl, ?_⟩⟩
    rw [e1] at w1 ⊢
    refine xsIf_f rfl ?_
    rw [show IntKind.i64.wrap ((k : Int) + 1) = ((k + 1 : Nat) : Int) by rw [i64_in _ (by omega)]; omega]
    refine ih (k + 1) h1 x' (by omega) (i.next w1 st1) iv' sd' fun i hi => ?_
    rw [r' i hi]
    by_cases ei : i = k
    · rw [if_pos ei, if_pos (by omega)]
    · rw [if_neg ei, r i hi]
      by_cases ek : i < k
      · rw [if_pos ek, if_pos (by omega)]
      · rw [if_neg ek, if_neg (by omega)]
end
end Go.Gb
namespace Go.Gb
open Go.Proofs IntWalk

section
variable {F : Nat → Prop} {Gs : Nat → Nat → Prop} {bs rs : Nat → Nat} {hc h0 h h1 : Heap} {d f : Nat} {p : FPl} {x : FS} {Q : Value → Heap → Prop} {s0 s1 A : ByteArray} {c0 c1 c2 : Int} {ka : Option Addr} {ks : List Bool} {kc : Nat}

theorem gabionlaw09_FlatTorn.J21.c (hr : readsAt h0 ka (ks.map Value.bool)) (hs0 : s0.size ≤ 140737488351232) (hs1 : s1.size ≤ 140737488351232) (hc0 : 0 ≤ c0 ∧ c0 ≤ 65535) (hc2 : 0 ≤ c2 ∧ c2 ≤ 65535)
    (hq : ∀ h', Part h0 h' → Q (.bool true) h') (i : Lq h0 h F Gs bs rs hc d f p x) (iv : FI p x) (sd : Sd x.s) (z : ∀ l, l < p.R * p.pl → fr p x l = zero64) :
    gabionlaw09_FlatTorn.J21 (some ⟨d, 0, none⟩) ka ks.length kc (some ⟨f, 0, none⟩) s0 s1 c0 c1 c2 h Q := by
  apply gabionlaw09_FlatTorn.J21.ok
  exact flat_Flat_Lines.c i.fd iv.ok ⟨_, rfl, gabionlaw09_FlatTorn.L22.c hr hs0 hs1 hc0 hc2 hq (p.R * p.pl) 0 h x (by omega) i iv sd fun i hi => by rw [z i hi, if_neg (by omega)]⟩

theorem gabionlaw09_FlatTorn.J15.no {s : PmS} {x0 : FS} (hr : readsAt h0 ka (ks.map Value.bool)) (hs0 : s0.size ≤ 140737488351232) (hs1 : s1.size ≤ 140737488351232) (hc0 : 0 ≤ c0 ∧ c0 ≤ 65535) (hc2 : 0 ≤ c2 ∧ c2 ≤ 65535)
    (hq : ∀ h', Part h0 h' → Q (.bool true) h') (w : PmD F h d s) (lv : Live F h) (pt : Part h0 h) (ff : ∀ k, h0 k ≠ none → ¬ F k) (ok : p.ok s.nl) (o : On s) (pm : PmOk s) (sd : Sd s) :
    gabionlaw09_FlatTorn.J15 (some ⟨d, 0, none⟩) ka ks.length kc none 4 s0 s1 c0 c1 c2 p.R p.pl p.ps p.psi p.key h Q := by
  apply gabionlaw09_FlatTorn.J15.ok
  have hMake := fun {Q : Value → Heap → Prop} hq => flat_Make.c (Q := Q) (p := p) w lv ok o pm sd.nb hq
  refine xsIf_t rfl (xsIf_f rfl (xsIf_f rfl (hMake fun h1 w1 st1 => ⟨_, rfl, ?_⟩)))
  obtain ⟨n1, nb, f, r⟩ := fmake_out ok o pm sd.nb (.inl sd.f)
  obtain ⟨e, f1⟩ := f sd.f
  generalize fmake p s = q at w1 n1 nb r e f1 ⊢
  obtain ⟨a, s'⟩ := q
  have e : a = 0 := e
  subst e
  have r : FI p (FS.zero p s') ∧ ∀ l, l < p.R * p.pl → fr p (FS.zero p s') l = zero64 := by
    rcases r with r | r
    · exact r.2
    · have := r.1; cases this
  refine xsIf_f rfl ?_
  apply gabionlaw09_FlatTorn.J18.ok
  have P1 := st1.part pt ff
  refine flat_Open.c (p := p) (x := FS.zero p s') w1 (st1.dom lv) r.1 fun f Gs bs rs hc h2 w2 fG fc p2 => ⟨_, _, rfl, xsIf_f rfl (xsIf_f rfl ?_)⟩
  obtain ⟨iv2, z2⟩ := r.1.new
  exact gabionlaw09_FlatTorn.J21.c hr hs0 hs1 hc0 hc2 hq (Lq.of_open w2 P1 p2 ff fG) iv2 ⟨f1, nb⟩ fun l hl => (z2 l).trans (r.2 l hl)

set_option maxRecDepth 100000 in
theorem gabionlaw09_FlatTorn.L5.c {hs : Heap} (hs0 : s0.size ≤ 140737488351232) (hs1 : s1.size ≤ 140737488351232) (hc0 : 0 ≤ c0 ∧ c0 ≤ 65535) (hc2 : 0 ≤ c2 ∧ c2 ≤ 65535) (pr : p.rt) (hz : 1 + p.R * p.z ≤ 40)
    (w : PmD F hs d (pnew (1 + p.R * p.z))) (lv : Live F hs) (pt : Part h0 hs) (ff : ∀ k, h0 k ≠ none → ¬ F k)
    (hq : ∀ h', Part h0 h' → Q (.bool true) h') : ∀ (j k : Nat) (h' : Heap) (ks : List Bool) (kp : Option Addr) (kc : Nat), k + j = 16 → ks.length = k → Own hs h' 4 1 kp ks.length kc (ks.map Value.bool) →
      gabionlaw09_FlatTorn.L5 (some ⟨d, 0, none⟩) kp ks.length kc (k : Int) s0 s1 c0 c1 c2 p.R p.pl p.ps p.psi p.key h' Q := by
  intro j
  induction j with
  | zero =>
    intro k h' ks kp kc hk hlk o
    apply gabionlaw09_FlatTorn.L5.ok
    have ok : p.ok (1 + p.R * p.z) := pr.ok (by omega)
    obtain ⟨hk, q1, q2, hr, fk⟩ := o.aside pt lv ff
    have w' : PmD F h' d (pnew (1 + p.R * p.z)) := w.keep fun _ _ hk => part_live o.part hk
    have lv' := (Step.of_part (F := F) o.part).dom lv
    refine xsIf_f (decide_eq_false (by omega)) ?_
    rw [show IntKind.i64.wrap (1 + IntKind.i64.wrap (irem c0 600)) = 1 + c0 % 600 by rw [irem_pos hc0.1, i64_in (c0 % 600) (by omega), i64_in _ (by omega)]]
    refine pm_Device_Fuse.c w' (by omega) fun h1 w1 st1 => ?_
    have on1 : On { pnew (1 + p.R * p.z) with fuse := imax (1 + c0 % 600) 0 } := ⟨rfl, by show 0 ≤ imax _ _; rw [imax_eq]; omega, fun _ _ => rfl⟩
    have pm1 : PmOk { pnew (1 + p.R * p.z) with fuse := imax (1 + c0 % 600) 0 } := (PmOk.new (1 + p.R * p.z)).of rfl rfl
    have nb1 : Nb { pnew (1 + p.R * p.z) with fuse := imax (1 + c0 % 600) 0 } := fun _ => rfl
    have m := fmake_out (p := p) (s := { pnew (1 + p.R * p.z) with fuse := imax (1 + c0 % 600) 0 }) ok on1 pm1 nb1 (.inr fun _ _ => rfl)
    have hMake := fun {Q : Value → Heap → Prop} hq => flat_Make.c (Q := Q) (p := p) w1 (st1.dom lv') ok on1 pm1 nb1 hq
    refine hMake fun h2 w2 st2 => ⟨_, rfl, ?_⟩
    have nl1 : PmS.nl { pnew (1 + p.R * p.z) with fuse := imax (1 + c0 % 600) 0 } = 1 + p.R * p.z := rfl
    generalize (({ pnew (1 + p.R * p.z) with fuse := imax (1 + c0 % 600) 0 }) : PmS) = s at m w2 nl1
    obtain ⟨n2, nb2, -, r⟩ := m
    rw [nl1] at n2
    generalize fmake p s = q at w2 n2 nb2 r ⊢
    have st12 := st1.trans st2
    have P2 : Part hk h2 := st12.part q2 fk
    refine pm_Device_Boot.c w2 (st12.dom lv') (bools_full (readsAt_part hr P2)) fun h3 w3 st3 => ?_
    have P3 : Part hk h3 := st3.part P2 fk
    have lv3 := st3.dom (st12.dom lv')
    have hq' : ∀ h', Part hk h' → Q (.bool true) h' := fun h' p' => hq h' (q1.trans p')
    rcases r with ⟨e, iv, z⟩ | ⟨e, off, torn⟩
    · obtain ⟨iv3, z3⟩ := iv.boot ks
      refine flat_Open.c (p := p) (x := ⟨pboot q.2 ks, _, _, fun _ => 0⟩) w3 lv3 iv3 fun f Gs bs rs hc h4 w4 fG fc p4 => ⟨_, _, rfl, gabionlaw09_wakes.c fun h5 p5 => ⟨_, rfl, xsIf_f rfl ?_⟩⟩
      obtain ⟨iv4, z4⟩ := iv3.new
      have i4 := (Lq.of_open w4 P3 p4 fk fG).part p5
      have nb3 : Nb (pboot q.2 ks) := nb2
      rw [e]
      refine xsIf_f rfl (xsIf_t rfl (xsIf_f rfl ?_))
      apply gabionlaw09_FlatTorn.J15.ok
      refine xsIf_f rfl (gabionlaw09_FlatTorn.J21.c hr hs0 hs1 hc0 hc2 hq' i4 iv4 ⟨⟨rfl, rfl⟩, nb3⟩ fun l hl => ?_)
      exact (z4 l).trans ((z3 l hl).trans (z l hl))
    · have t := torn ks
      have n3 : (pboot q.2 ks).nl = 1 + p.R * p.z := n2
      have nb3 : Nb (pboot q.2 ks) := nb2
      have f3 : F0 (pboot q.2 ks) := ⟨rfl, rfl⟩
      generalize pboot q.2 ks = s3 at w3 t n3 nb3 f3
      rw [e]
      by_cases g : Good s3
      · obtain ⟨p', ok', iv', _, _, z'⟩ := t.valid (by rw [n3]; exact ok) g
        refine flat_Open.c (p := p') (x := FS.zero p' s3) w3 lv3 iv' fun f Gs bs rs hc h4 w4 fG fc p4 => ⟨_, _, rfl, gabionlaw09_wakes.c fun h5 p5 => ⟨_, rfl, xsIf_f rfl ?_⟩⟩
        obtain ⟨iv4, z4⟩ := iv'.new
        have i4 := (Lq.of_open w4 P3 p4 fk fG).part p5
        refine xsIf_t rfl (xsIf_f rfl (xsIf_f rfl ?_))
        apply gabionlaw09_FlatTorn.J15.ok
        exact xsIf_f rfl (gabionlaw09_FlatTorn.J21.c hr hs0 hs1 hc0 hc2 hq' i4 iv4 ⟨f3, nb3⟩ fun l hl => (z4 l).trans (z' l hl))
      · refine flat_Open.bad w3 t.1 t.2.1 (by omega) g fun h4 p4 => ⟨_, _, rfl, gabionlaw09_wakes.c fun h5 p5 => ⟨_, rfl, xsIf_f rfl ?_⟩⟩
        refine xsIf_t rfl (xsIf_f rfl (xsIf_f rfl ?_))
        have p45 := p4.trans p5
        exact gabionlaw09_FlatTorn.J15.no (x0 := FS.zero p s3) hr hs0 hs1 hc0 hc2 hq' (w3.keep fun _ _ hk => part_live p45 hk) ((Step.of_part (F := F) p45).dom lv3) (P3.trans p45) fk (by rw [n3]; exact ok) t.1 t.2.1 ⟨f3, nb3⟩
  | succ j ih =>
    intro k h' ks kp kc hk hlk o
    apply gabionlaw09_FlatTorn.L5.ok
    refine xsIf_t (decide_eq_true (by omega)) ⟨by omega, fun bk hbk => ?_⟩
    refine o.bsnoc hbk (by kernel_rfl) (by kernel_rfl) ?_ fun a' c' h2 o' => ?_
    · rw [show cellBytes Tryz.prog 4 = 1 by kernel_rfl]; omega
    · rw [show IntKind.i64.wrap ((k : Int) + 1) = ((k + 1 : Nat) : Int) by rw [i64_in _ (by omega)]; omega]
      have := ih (k + 1) h2 (ks ++ [decide (iand .u16 (ishr .u16 c1 (k : Int)) 1 = 1)]) a' c' (by omega) (by simp [hlk]) (by rw [List.length_append]; exact o')
      rw [List.length_append] at this
      exact this
end

set_option maxRecDepth 100000 in
theorem gabionlaw09_FlatTorn.law (cs : List Value) (ss : List ByteArray) (hsl : ss.length = 2) (hss : ∀ s ∈ ss, s.size ≤ 140737488351232) (ns : List Int) (hl : ns.length = 3) (hx : ∀ x ∈ ns, IntKind.u16.min ≤ x ∧ x ≤ IntKind.u16.max) (h : Heap) (hc : Okc Tryz.prog h 8 24 cs) :
    C Tryz.prog 5 #[.agg cs.toArray, .agg (ss.map Value.string).toArray, .agg (ns.map (Value.int .u16)).toArray] h fun v h' => v = .bool true ∧ Part h h' := by
  match ns, hl, ss, hsl with
  | [c0, c1, c2], _, [s0, s1], _ =>
  have hc0 : 0 ≤ c0 ∧ c0 ≤ 65535 := hx c0 (by simp)
  have hc2 : 0 ≤ c2 ∧ c2 ≤ 65535 := hx c2 (by simp)
  have hs0 : s0.size ≤ 140737488351232 := hss s0 (by simp)
  have hs1 : s1.size ≤ 140737488351232 := hss s1 (by simp)
  obtain ⟨y0, y1, y2, y3, y4, rfl, ky⟩ := okc_cfg hc
  obtain ⟨ky', rfl⟩ : ∃ q : Nat, y4 = q := ⟨y4.toNat, by omega⟩
  obtain ⟨p, pr, p1, p2, p3, p4, pk, e0, e1, e2, e3⟩ := small_fpl y0 y1 y2 y3 (key := ky') (by omega)
  have sz := small_size p1 p2 p3
  apply gabionlaw09_FlatTorn.ok
  refine gabionlaw09_small.c e0 e1 e2 e3 pk ⟨_, _, _, _, _, rfl, flat_Config_Size.c pr ⟨_, rfl, ?_⟩⟩
  refine pm_New.c (n := 1 + p.R * p.z) (by omega) (by omega) fun d F h1 w1 fr lv1 p1' => ⟨_, _, rfl, ?_⟩
  have hff : ∀ k, h k ≠ none → ¬ F k := fun k hk' hf => hk' (fr k hf)
  exact gabionlaw09_FlatTorn.L5.c hs0 hs1 hc0 hc2 pr sz w1 lv1 p1' hff (fun h' p => ⟨rfl, p⟩) 16 0 h1 [] none 0 (by omega) rfl (Own.nil (Part.refl h1))
end Go.Gb
