/- Own texts for the seat: Fk1 Fk2. -/
import Derived.Test.YtjdleeamgmkbkaaGreatB6
set_option linter.unusedVariables false
set_option linter.unusedSimpArgs false
set_option linter.unnecessarySimpa false
set_option linter.deprecated false
namespace Go.Gb
open Go.Proofs IntWalk

/-! ## FlatKeeps -/

theorem SpI.brk2 {p : Pl} {s : PmS} {l : List Nat} {k : Nat} (sp : SpI p s l) (hk : k < p.pa ∨ p.pa + tblN p ≤ k) : SpI p { s with bad := fset s.bad k true } l :=
  ⟨sp.ok, ⟨sp.on.off, sp.on.f0, sp.on.buf⟩, sp.en, fun t g1 g2 => by show fset s.bad k true t = false; unfold fset; rw [if_neg (by omega)]; exact sp.tb t g1 g2, sp.w.of rfl rfl⟩

/-- A line breaks that is no table's. -/
theorem FI.brk {p : FPl} {x : FS} {k : Nat} (w : FI p x) (hk : ∀ r, r < p.R → k < (p.plan r).pa ∨ (p.plan r).pa + tblN (p.plan r).bk ≤ k) : FI p ⟨{ x.s with bad := fset x.s.bad k true }, x.l, x.g, x.n⟩ ∧ ∀ l, fr p ⟨{ x.s with bad := fset x.s.bad k true }, x.l, x.g, x.n⟩ l = fr p x l :=
  ⟨⟨w.ok, fun r hr => ((w.rg r hr).dev ((w.rg r hr).sp.brk2 (hk r hr)) rfl).1, w.hd⟩, fun _ => rfl⟩

theorem whF_brk {p : FPl} {x : FS} (w : FI p x) {l : Nat} (hl : l < p.R * p.pl) : ∀ r, r < p.R → whF p x l < (p.plan r).pa ∨ (p.plan r).pa + tblN (p.plan r).bk ≤ whF p x l := fun r hr => by
  obtain ⟨_, a2, a3⟩ := whF_at w hl
  by_cases e : r = p.reg l
  · rw [e]; exact .inr a2
  · have h := plan_apart (p := p) e
    rw [plan_size, plan_size] at h
    have ht : tblN (p.plan r).bk ≤ p.z := by
      show (p.ps + 7) / 8 ≤ (p.ps + 7) / 8 + (p.pl + 2) + p.ps
      omega
    omega

section
variable {F : Nat → Prop} {Gs : Nat → Nat → Prop} {bs rs : Nat → Nat} {hc h0 h h1 h2 : Heap} {d f kb : Nat} {p : FPl} {x x' : FS} {kn : Nat → ByteArray} {Q : Value → Heap → Prop}

theorem flat_Flat_Left.c {k : Nat} (w : FD F Gs bs rs hc h d f p x) (hk : k < p.R) (hq : Q (.int .i64 ((p.ps : Int) - ((x.l k).length : Nat))) h) : C Tryz.prog 27 #[.pointer (some ⟨f, 0, none⟩), .int .i64 (k : Int)] h Q := by
  obtain ⟨a1, c1, a2, c2, e0, e1, e2, e3, e4, e5, e6, r1, r2⟩ := w.cell
  have g := w.region hk
  apply flat_Flat_Left.ok
  apply flat_Flat_ring.ok
  refine xsIf_f rfl (xsIf_f (decide_eq_false (by omega)) ⟨f, 0, rfl, _, _, _, e5, xsIf_f (decide_eq_false (by omega)) ⟨f, 0, rfl, _, _, _, e5, by omega, ?_⟩⟩)
  refine reads_base r1 (by simp; omega) fun b1 o1 hc1 => ⟨some ⟨rs k, 0, none⟩, ?_, _, rfl, ?_⟩
  · have := hc1 k (by simp; omega)
    rw [range_ptr hk] at this
    rw [show (k : Int).toNat * 1 = k * 1 by omega]; exact this
  · apply ring_Ring_Left.ok
    exact xsIf_f rfl ⟨rs k, 0, rfl, _, g.c4, spare_Bank_Left.c g.db.bk ⟨_, rfl, ⟨_, rfl, hq⟩⟩⟩

structure Kp (h0 h : Heap) (F : Nat → Prop) (Gs : Nat → Nat → Prop) (bs rs : Nat → Nat) (hc : Heap) (d f : Nat) (p : FPl) (x : FS) (kb : Nat) (kn : Nat → ByteArray) : Prop where
  q : Lq h0 h F Gs bs rs hc d f p x
  k : Blk h kb ((List.range (p.R * p.pl)).map fun j => Value.string (kn j))
  nk : ¬ FF F Gs rs p.R kb
  fk : h0 kb = none
  nc : hc kb = none
  iv : FI p x
  f0 : F0 x.s
  e : ∀ j, j < p.R * p.pl → kn j = fr p x j

theorem Kp.part (i : Kp h0 h F Gs bs rs hc d f p x kb kn) (pt : Part h h1) : Kp h0 h1 F Gs bs rs hc d f p x kb kn := ⟨i.q.part pt, i.k.keep (part_live pt i.k.ne), i.nk, i.fk, i.nc, i.iv, i.f0, i.e⟩

/-- All lines are looked at. -/
theorem gabionlaw09_FlatKeeps.L35.c {ta : Option Addr} {tn tc : Nat} {N t : Int} {r : Nat} (i : Kp h0 h1 F Gs bs rs hc d f p x kb kn) (hr : h1 r = none)
    (hq : ∀ h', Part h1 h' → gabionlaw09_FlatKeeps.L15 (some ⟨d, 0, none⟩) (some ⟨f, 0, none⟩) (some ⟨kb, 0, none⟩) (p.R * p.pl) (p.R * p.pl) ta tn tc N (IntKind.i64.wrap (t + 1)) h' Q) :
    ∀ (j k : Nat) (h' : Heap) (l : List (Int × Value × Nat)) (c : Nat) (fm : Nat → Option Bool), k + j = p.R * p.pl → Part h1 h' → h' r = some (mapO (.int .i64) l c) → MapG Value.bool 8192 fm l c → (∀ w, fm w ≠ none → ∃ q, q < k ∧ w = whF p x q) →
      gabionlaw09_FlatKeeps.L35 (some ⟨d, 0, none⟩) (some ⟨f, 0, none⟩) (some ⟨kb, 0, none⟩) (p.R * p.pl) (p.R * p.pl) (some r) ta tn tc N t (some ⟨kb, 0, none⟩) (p.R * p.pl) (p.R * p.pl) ((p.R * p.pl : Nat) : Int) (k : Int) h' Q := by
  have nes : ∀ {x : ByteArray}, decide (x ≠ x) = false := decide_eq_false (fun h => h rfl)
  have h8 := i.iv.ok.n
  have hRl : p.R * p.pl ≤ 16 * 1024 := Nat.mul_le_mul i.iv.ok.r2 i.iv.ok.l2
  intro j
  induction j with
  | zero =>
    intro k h' l c fm hk pt hm mg hw
    apply gabionlaw09_FlatKeeps.L35.ok
    exact xsIf_f (decide_eq_false (by omega)) (hq h' pt)
  | succ j ih =>
    intro k h' l c fm hk pt hm mg hw
    apply gabionlaw09_FlatKeeps.L35.ok
    have i' := i.part pt
    have hkN : k < p.R * p.pl := by omega
    have hcell : h'.cell kb (0 + (k : Int).toNat * 1) = some (.string (kn k)) := by
      rw [show 0 + (k : Int).toNat * 1 = k by omega, i'.k.cell]; exact row_get (fun j => Value.string (kn j)) hkN
    refine xsIf_t (decide_eq_true (by omega)) ⟨by omega, kb, 0, rfl, _, hcell, flat_Flat_Read.c i'.q.fd i.iv (fun _ _ => ⟨_, _, rfl, flat_Flat_Where.c i'.q.fd i.iv hkN ⟨_, _, rfl, xsIf_f rfl (xsIf_f rfl ?_)⟩⟩) fun hn => absurd ⟨by omega, by omega⟩ hn⟩
    rw [Int.toNat_natCast, i.e k hkN]
    have wa := whF_at i.iv hkN
    have new : fm (whF p x k) = none := by
      cases e : fm (whF p x k) with
      | none => rfl
      | some b =>
        obtain ⟨q, hq1, hq2⟩ := hw (whF p x k) (by rw [e]; simp)
        have := whF_inj i.iv hkN (show q < p.R * p.pl by omega) hq2
        omega
    have no : ∀ (j : Nat) (v : Value) (b : Nat), ¬ mnth l j = some (((whF p x k : Nat) : Int), v, b) := fun j v b e => by
      obtain ⟨y, h1, _⟩ := mg.found e
      rw [new] at h1; cases h1
    show xsIf _ _ (atMap (some r) fun r => _)
    have add : gabionlaw09_FlatKeeps.L35 (some ⟨d, 0, none⟩) (some ⟨f, 0, none⟩) (some ⟨kb, 0, none⟩) (p.R * p.pl) (p.R * p.pl) (some r) ta tn tc N t (some ⟨kb, 0, none⟩) (p.R * p.pl) (p.R * p.pl) ((p.R * p.pl : Nat) : Int) (IntKind.i64.wrap ((k : Int) + 1)) (upd h' r (mapO (.int .i64) (madd l (((whF p x k : Nat) : Int), .bool true, c)) (c + 1))) Q := by
      rw [show IntKind.i64.wrap ((k : Int) + 1) = ((k + 1 : Nat) : Int) by rw [i64_in _ (by omega)]; omega]
      refine ih (k + 1) _ _ _ (fset fm (whF p x k) (some true)) (by omega) (Part.upd' pt hr _) (upd_same _ _ _) (mg.add (by omega) (by omega) no true) fun w hne => ?_
      unfold fset at hne
      by_cases e : w = whF p x k
      · exact ⟨k, by omega, e⟩
      · rw [if_neg e] at hne
        obtain ⟨q, hq1, hq2⟩ := hw w hne
        exact ⟨q, by omega, hq2⟩
    exact xsIf_f nes ⟨r, rfl, l, c, hm, fun j v b e => absurd e (no j v b), fun _ => ⟨r, rfl, l, c, hm, fun j v b e => absurd e (no j v b), fun _ => add⟩⟩

theorem gabionlaw09_FlatKeeps.J33.c {ta : Option Addr} {tn tc : Nat} {N t : Int} (i : Kp h0 h F Gs bs rs hc d f p x kb kn)
    (hq : ∀ h', Kp h0 h' F Gs bs rs hc d f p x kb kn → gabionlaw09_FlatKeeps.L15 (some ⟨d, 0, none⟩) (some ⟨f, 0, none⟩) (some ⟨kb, 0, none⟩) (p.R * p.pl) (p.R * p.pl) ta tn tc N (IntKind.i64.wrap (t + 1)) h' Q) :
    gabionlaw09_FlatKeeps.J33 (some ⟨d, 0, none⟩) (some ⟨f, 0, none⟩) (some ⟨kb, 0, none⟩) (p.R * p.pl) (p.R * p.pl) ta tn tc N t h Q := by
  apply gabionlaw09_FlatKeeps.J33.ok
  intro r hr
  exact gabionlaw09_FlatKeeps.L35.c i hr (fun h' pt => hq h' (i.part pt)) (p.R * p.pl) 0 _ [] 0 (fun _ => none) (by omega) (Part.upd hr _) (upd_same _ _ _) MapG.empty fun w hw => absurd rfl hw

/-- What goes on. -/
abbrev GoK (h0 : Heap) (F : Nat → Prop) (d : Nat) (p : FPl) (nl kb : Nat) (ta : Option Addr) (tn tc : Nat) (N t : Int) (Q : Value → Heap → Prop) : Prop :=
  ∀ h' Gs bs rs hc f x kn, Kp h0 h' F Gs bs rs hc d f p x kb kn → x.s.nl = nl → gabionlaw09_FlatKeeps.L15 (some ⟨d, 0, none⟩) (some ⟨f, 0, none⟩) (some ⟨kb, 0, none⟩) (p.R * p.pl) (p.R * p.pl) ta tn tc N (IntKind.i64.wrap (t + 1)) h' Q

theorem keeps_act {a : Option Addr} {n cp : Nat} {N : Int} {y : Act6} {t : Int} (i : Kp h0 h F Gs bs rs hc d f p x kb kn) (ht : 0 ≤ t ∧ t < N) (hn : t < n)
    (hcl : ∀ K, (∀ b o, h.cell b (o + t.toNat * 6) = some (.int .i64 y.a0) → h.cell b (o + t.toNat * 6 + 1) = some (.int .i64 y.a1) → h.cell b (o + t.toNat * 6 + 1 + 1) = some (.int .i64 y.a2) → h.cell b (o + t.toNat * 6 + 1 + 1 + 1) = some (.int .u64 y.a3) →
      h.cell b (o + t.toNat * 6 + 1 + 1 + 1 + 1) = some (.string y.s) → h.cell b (o + t.toNat * 6 + 1 + 1 + 1 + 1 + 1) = some (.slice y.ka y.ks.length y.kc) → K b o) → atBase a K)
    (hq : GoK h0 F d p x.s.nl kb a n cp N t Q) :
    gabionlaw09_FlatKeeps.L15 (some ⟨d, 0, none⟩) (some ⟨f, 0, none⟩) (some ⟨kb, 0, none⟩) (p.R * p.pl) (p.R * p.pl) a n cp N t h Q := by
  have r1 := i.iv.ok.r1
  have l1 := i.iv.ok.l1
  have hN : 1 ≤ p.R * p.pl := Nat.mul_le_mul r1 l1
  have hRl : p.R * p.pl ≤ 16 * 1024 := Nat.mul_le_mul i.iv.ok.r2 i.iv.ok.l2
  apply gabionlaw09_FlatKeeps.L15.ok
  refine xsIf_t (decide_eq_true ht.2) ⟨⟨ht.1, hn⟩, hcl _ fun b0 o k0 k1 k2 k3 k4 k5 => ⟨_, k0, _, k1, _, k2, _, k3, _, k4, _, _, _, k5, by omega, ?_⟩⟩
  obtain ⟨q, hq1⟩ := imax0 y.a1
  have hlN : q % (p.R * p.pl) < p.R * p.pl := Nat.mod_lt _ (by omega)
  have el : irem (imax 0 y.a1) ((p.R * p.pl : Nat) : Int) = ((q % (p.R * p.pl) : Nat) : Int) := by rw [hq1]; exact irem_nat _ _
  rw [el]
  generalize q % (p.R * p.pl) = l at hlN
  refine xsIf_intro (fun _ => ?_) fun _ => xsIf_intro (fun _ => ?_) fun _ => ?_
  · refine flat_Flat_Where.c i.q.fd i.iv hlN ⟨_, _, rfl, xsIf_t rfl ?_⟩
    have wa := whF_at i.iv hlN
    refine pm_Device_Break.c i.q.fd.dv fun h1 w1 st1 => ?_
    have w1 : PmD F h1 d { x.s with bad := fset x.s.bad (whF p x l) true } := by
      have hw : (0 : Int) ≤ ((whF p x l : Nat) : Int) ∧ ((whF p x l : Nat) : Int) < (x.s.nl : Int) := by omega
      have w1 := w1
      rw [show ((whN (p.plan (p.reg l)).bk (x.l (p.reg l)) ((x.g (p.reg l)).slot p.pl (p.pos l)) : Nat) : Int) = ((whF p x l : Nat) : Int) from rfl, if_pos hw, Int.toNat_natCast] at w1
      exact w1
    obtain ⟨iv2, f2⟩ := i.iv.brk (whF_brk i.iv hlN)
    refine gabionlaw09_FlatKeeps.J33.c (kn := kn) ⟨i.q.dev w1 st1, i.k.keep (st1.keep kb (fun hF => i.nk (.inl hF)) i.k.ne), i.nk, i.fk, i.nc, iv2, ⟨i.f0.off, i.f0.fuse⟩, fun j hj => (i.e j hj).trans (f2 j).symm⟩ fun h' i' => hq h' _ _ _ _ _ _ _ i' rfl
  · refine flat_Open.c i.q.fd.dv i.q.fd.lf i.iv fun f' Gs' bs' rs' hc' h3 w3 fG fc p3 => ⟨_, _, rfl, xsIf_f rfl (xsIf_f rfl ?_)⟩
    obtain ⟨iv2, f2⟩ := i.iv.new
    have q2 := Lq.of_open w3 i.q.pt p3 (fun k hk hF => i.q.ff k hk (.inl hF)) fG
    refine gabionlaw09_FlatKeeps.J33.c (kn := kn) ⟨q2, i.k.keep (part_live p3 i.k.ne), fun hf => ?_, i.fk, Classical.byContradiction fun e => i.k.ne (fc kb e), iv2, i.f0, fun j hj => (i.e j hj).trans (f2 j).symm⟩ fun h' i' => hq h' _ _ _ _ _ _ _ i' rfl
    rcases hf with hf | ⟨k, hk, hf⟩
    · exact i.nk (.inl hf)
    · exact i.k.ne (fG k hk kb hf)
  · have hS : (sext y.s 0 (imin (y.s.size : Int) 64)).size ≤ 140737488351232 := by
      have := sext_le y.s (imin (y.s.size : Int) 64)
      rw [imin_eq] at this ⊢
      omega
    refine ⟨by rw [imin_eq]; omega, gabionlaw09_full.c hS ⟨_, rfl, flat_Flat_Write.c i.q.fd i.iv fun h1 w1 st1 => ⟨_, rfl, ?_⟩⟩⟩
    have hB := fullB_size (sext y.s 0 (imin (y.s.size : Int) 64))
    generalize fullB (sext y.s 0 (imin (y.s.size : Int) 64)) = B at w1 hB
    obtain ⟨f1, iv1, n1, o⟩ := fWrite_f0 i.iv i.f0 hlN hB
    have q1 := i.q.next w1 st1
    have k1 := i.k.keep (st1.keep kb i.nk i.k.ne)
    generalize fWrite p x (l : Int) B = r at w1 f1 iv1 n1 o q1
    rcases o with ⟨e, m⟩ | ⟨e, full, m⟩
    · refine xsIf_t (decide_eq_true e) ⟨by omega, kb, 0, rfl, k1.can (by simp; omega), ?_⟩
      rw [show 0 + ((l : Nat) : Int).toNat * 1 = l by omega]
      have k2 := k1.put l [.string B]
      rw [setL_one, row_set Value.string] at k2
      have st : Step (fun k => k = kb) h1 (fun k => k = kb) (h1.put kb l [.string B]) := Step.put (F := fun k => k = kb) rfl _ _
      have ap : Apart (fun k => k = kb) (FF F Gs rs p.R) := fun k hk hf => i.nk (by rw [← show k = kb from hf]; exact hk)
      have nh : ∀ k, h0 k ≠ none → ¬ k = kb := fun k hk e => hk (by rw [e]; exact i.fk)
      have q2 : Lq h0 (h1.put kb l [.string B]) F Gs bs rs hc d f p r.2 :=
        ⟨q1.fd.keep (st.same ap) (st.part q1.fd.cp fun k hk e => hk (by rw [show k = kb from e]; exact i.nc)), st.part q1.pt nh, q1.ff⟩
      refine gabionlaw09_FlatKeeps.J33.c (kn := fset kn l B) ⟨q2, k2, i.nk, i.fk, i.nc, iv1, f1, fun j hj => ?_⟩ fun h' i' => hq h' _ _ _ _ _ _ _ i' n1
      rw [m j hj]
      unfold fset
      by_cases ej : j = l
      · rw [if_pos ej, if_pos ej]
      · rw [if_neg ej, if_neg ej]; exact i.e j hj
    · obtain ⟨hr, hp⟩ := FPl.at_line i.iv.ok hlN
      refine xsIf_f (decide_eq_false (by omega)) (xsIf_f (decide_eq_false (fun h => h e)) (flat_Flat_Region.c w1 iv1.ok (fun _ _ => ⟨_, rfl, ?_⟩) fun hn => absurd ⟨by omega, by omega⟩ hn))
      rw [Int.toNat_natCast]
      refine flat_Flat_Left.c w1 hr ⟨_, rfl, xsIf_f (decide_eq_false (fun h => h (by omega))) ?_⟩
      exact gabionlaw09_FlatKeeps.J33.c (kn := kn) ⟨q1, k1, i.nk, i.fk, i.nc, iv1, f1, fun j hj => (i.e j hj).trans (m j hj).symm⟩ fun h' i' => hq h' _ _ _ _ _ _ _ i' n1
end
end Go.Gb
namespace Go.Gb
open Go.Proofs IntWalk

/-! ## FlatKeeps: the law -/

section
variable {F : Nat → Prop} {Gs : Nat → Nat → Prop} {bs rs : Nat → Nat} {hc h0 h h1 : Heap} {d f kb : Nat} {p : FPl} {x : FS} {kn : Nat → ByteArray} {Q : Value → Heap → Prop}

/-- The texts that are known are written. -/
theorem gabionlaw09_FlatKeeps.L10.c {aa : Option Addr} {n cp : Nat} (i0 : Lq h0 h F Gs bs rs hc d f p x) (nk : ¬ FF F Gs rs p.R kb) (fk : h0 kb = none) (nc : hc kb = none) (iv : FI p x) (f0 : F0 x.s) (z : ∀ j, j < p.R * p.pl → fr p x j = zero64)
    (hq : ∀ h' kn, Kp h0 h' F Gs bs rs hc d f p x kb kn → (0 ≤ imin (n : Int) 40 ∧ imin (n : Int) 40 ≤ (cp : Int)) ∧ gabionlaw09_FlatKeeps.L15 (some ⟨d, 0, none⟩) (some ⟨f, 0, none⟩) (some ⟨kb, 0, none⟩) (p.R * p.pl) (p.R * p.pl) (slBase aa (cp : Int) 0 6) (imin (n : Int) 40 - 0).toNat ((cp : Int) - 0).toNat (((imin (n : Int) 40 - 0).toNat : Nat) : Int) 0 h' Q) :
    ∀ (j k : Nat) (h' : Heap) (kn : Nat → ByteArray), k + j = p.R * p.pl → Lq h0 h' F Gs bs rs hc d f p x → Blk h' kb ((List.range (p.R * p.pl)).map fun j => Value.string (kn j)) → (∀ i, i < k → kn i = zero64) →
      gabionlaw09_FlatKeeps.L10 aa n cp (some ⟨d, 0, none⟩) (some ⟨f, 0, none⟩) (some ⟨kb, 0, none⟩) (p.R * p.pl) (p.R * p.pl) ((p.R * p.pl : Nat) : Int) (k : Int) h' Q := by
  have hRl : p.R * p.pl ≤ 16 * 1024 := Nat.mul_le_mul iv.ok.r2 iv.ok.l2
  intro j
  induction j with
  | zero =>
    intro k h' kn hk q b e
    apply gabionlaw09_FlatKeeps.L10.ok
    exact xsIf_f (decide_eq_false (by omega)) (hq h' kn ⟨q, b, nk, fk, nc, iv, f0, fun j hj => (e j (by omega)).trans (z j hj).symm⟩)
  | succ j ih =>
    intro k h' kn hk q b e
    apply gabionlaw09_FlatKeeps.L10.ok
    refine xsIf_t (decide_eq_true (by omega)) (gabionlaw09_full.c (by decide) ⟨_, rfl, by omega, kb, 0, rfl, b.can (by simp; omega), ?_⟩)
    rw [show 0 + (k : Int).toNat * 1 = k by omega, show IntKind.i64.wrap ((k : Int) + 1) = ((k + 1 : Nat) : Int) by rw [i64_in _ (by omega)]; omega, fullB_nil]
    have b2 := b.put k [.string zero64]
    rw [setL_one, row_set Value.string] at b2
    have st : Step (fun k => k = kb) h' (fun k => k = kb) (h'.put kb k [.string zero64]) := Step.put (F := fun k => k = kb) rfl _ _
    have ap : Apart (fun k => k = kb) (FF F Gs rs p.R) := fun k hk hf => nk (by rw [← show k = kb from hf]; exact hk)
    have nh : ∀ k, h0 k ≠ none → ¬ k = kb := fun k hk e => hk (by rw [e]; exact fk)
    have q2 : Lq h0 (h'.put kb k [.string zero64]) F Gs bs rs hc d f p x := ⟨q.fd.keep (st.same ap) (st.part q.fd.cp fun k hk e => hk (by rw [show k = kb from e]; exact nc)), st.part q.pt nh, q.ff⟩
    refine ih (k + 1) _ (fset kn k zero64) (by omega) q2 b2 fun i hi => ?_
    unfold fset
    by_cases ei : i = k
    · rw [if_pos ei]
    · rw [if_neg ei]; exact e i (by omega)
end

set_option maxRecDepth 100000 in
theorem gabionlaw09_FlatKeeps.law (cs : List Value) (v : Value) (h : Heap) (hc : Okc Tryz.prog h 8 24 cs) (hv : Okc Tryz.prog h 8 25 [v]) :
    C Tryz.prog 4 #[.agg cs.toArray, v] h fun v h' => v = .bool true ∧ Part h h' := by
  obtain ⟨y0, y1, y2, y3, y4, rfl, ky⟩ := okc_cfg hc
  obtain ⟨a, n, c, dss, rfl, hnc, hcm, hl, hb, hr⟩ := okc_slice (e := 42) (sz := 6) (by kernel_rfl) (by kernel_rfl) (by omega) hv
  obtain ⟨acts, rfl, hacts⟩ := typed (f := Act6.row) (p := fun _ => True) dss (fun ds hds => by
    obtain ⟨h1, h2⟩ := hb ds hds
    obtain ⟨e1, e2⟩ := okc_each (d := 2) 5 42 [3, 3, 3, 22, 9, 40] ds (by kernel_rfl) h2 (by rw [h1]; rfl)
    match ds, h1 with
    | [p, q, r, s, u, v], _ =>
      obtain ⟨x0, rfl, -⟩ := okc_int (k := .i64) (by kernel_rfl) (e2 0 _ _ rfl rfl)
      obtain ⟨x1, rfl, -⟩ := okc_int (k := .i64) (by kernel_rfl) (e2 1 _ _ rfl rfl)
      obtain ⟨x2, rfl, h3⟩ := okc_int (k := .i64) (by kernel_rfl) (e2 2 _ _ rfl rfl)
      obtain ⟨x3, rfl, h7⟩ := okc_int (k := .u64) (by kernel_rfl) (e2 3 _ _ rfl rfl)
      obtain ⟨x4, rfl, -⟩ := okc_str (by kernel_rfl) (e2 4 _ _ rfl rfl)
      obtain ⟨ka, kn, kc, ks, rfl, h4, h5, rfl, h6⟩ := okc_bools (d := 0) (e := 4) (by kernel_rfl) (by kernel_rfl) (by kernel_rfl) (e2 5 _ _ rfl rfl)
      exact ⟨⟨x0, x1, x2, x3, x4, ka, kc, ks⟩, rfl, trivial⟩)
  rw [List.length_map] at hl
  rw [← List.flatMap_def] at hr
  obtain ⟨ky', rfl⟩ : ∃ q : Nat, y4 = q := ⟨y4.toNat, by omega⟩
  obtain ⟨p, pr, p1, p2, p3, p4, pk, e0, e1, e2, e3⟩ := small_fpl y0 y1 y2 y3 (key := ky') (by omega)
  have sz := small_size p1 p2 p3
  have ok := pr.ok (by omega)
  obtain ⟨s, em, iv, sd, nl, z⟩ := fmake_new ok
  apply gabionlaw09_FlatKeeps.ok
  refine gabionlaw09_small.c e0 e1 e2 e3 pk ⟨_, _, _, _, _, rfl, flat_Config_Size.c pr ⟨_, rfl, ?_⟩⟩
  refine pm_New.c (n := 1 + p.R * p.z) (by omega) (by omega) fun d F h1 w1 fr lv1 p1' => ⟨_, _, rfl, gabionlaw09_wakes.c fun h2 p2' => ⟨_, rfl, xsIf_f rfl ?_⟩⟩
  have w2 : PmD F h2 d (pnew (1 + p.R * p.z)) := w1.keep fun _ _ hk => part_live p2' hk
  have lv2 := (Step.of_part (F := F) p2').dom lv1
  have hMake := fun {Q : Value → Heap → Prop} hq => flat_Make.c (Q := Q) (p := p) w2 lv2 ok (On.new _) (PmOk.new _) (fun _ => rfl) hq
  refine hMake fun h3 w3 st3 => ⟨_, rfl, ?_⟩
  rw [em] at w3 ⊢
  have hff : ∀ k, h k ≠ none → ¬ F k := fun k hk' hf => hk' (fr k hf)
  have P3 : Part h h3 := st3.part (p1'.trans p2') hff
  have lv3 := st3.dom lv2
  refine xsIf_f rfl ?_
  apply gabionlaw09_FlatKeeps.J5.ok
  refine flat_Open.c (p := p) (x := FS.zero p s) w3 lv3 iv fun f Gs bs rs hc h4 w4 fG fc p4' => ⟨_, _, rfl, xsIf_f rfl (xsIf_f rfl ?_)⟩
  have i4 := Lq.of_open w4 P3 p4' hff fG
  obtain ⟨iv4, z4⟩ := iv.new
  apply gabionlaw09_FlatKeeps.J8.ok
  refine flat_Flat_Lines.c w4 ok ⟨_, rfl, ?_⟩
  have hRl : p.R * p.pl ≤ 3 * 5 := Nat.mul_le_mul p1 p2
  refine xsMk_w (by omega) (by omega) (by rw [show cellBytes Tryz.prog 9 = 16 by kernel_rfl]; omega) fun kb hkb => ?_
  rw [Int.toNat_natCast]
  have zS : zeros Tryz.prog 9 (p.R * p.pl) = (List.range (p.R * p.pl)).map fun _ => Value.string ⟨#[]⟩ := zeros_row (by kernel_rfl) _
  rw [zS]
  have i5 := i4.part (Part.upd hkb (.cells ((List.range (p.R * p.pl)).map fun _ => Value.string ⟨#[]⟩).toArray 9 (0, 0)))
  have nk : ¬ FF F Gs rs p.R kb := fun hf => w4.live kb hf hkb
  refine gabionlaw09_FlatKeeps.L10.c i5 nk (Part.none i4.pt hkb) (Part.none w4.cp hkb) iv4 sd.f (fun j hj => (z4 j).trans (z j hj)) (fun h5 kn i => ?_) (p.R * p.pl) 0 _ (fun _ => ⟨#[]⟩) (by omega) i5 (Blk.new _ _ _ _) fun i hi => by omega
  have hmn : imin (n : Int) 40 = ((min n 40 : Nat) : Int) := by rw [imin_eq]; omega
  rw [hmn, slBase0]
  refine ⟨by omega, ?_⟩
  have g1 : (((min n 40 : Nat) : Int) - 0).toNat = min n 40 := by omega
  rw [g1]
  have loop : ∀ (jj j : Nat) (h' : Heap) (Gs : Nat → Nat → Prop) (bs rs : Nat → Nat) (hc : Heap) (f : Nat) (x' : FS) (kn : Nat → ByteArray), j + jj = min n 40 → Kp h h' F Gs bs rs hc d f p x' kb kn →
      gabionlaw09_FlatKeeps.L15 (some ⟨d, 0, none⟩) (some ⟨f, 0, none⟩) (some ⟨kb, 0, none⟩) (p.R * p.pl) (p.R * p.pl) a (min n 40) ((c : Int) - 0).toNat ((min n 40 : Nat) : Int) j h' fun v h' => v = .bool true ∧ Part h h' := by
    intro jj
    induction jj with
    | zero =>
      intro j h' Gs bs rs hc f x' kn hj i
      apply gabionlaw09_FlatKeeps.L15.ok
      exact xsIf_f (decide_eq_false (by omega)) ⟨rfl, i.q.pt⟩
    | succ jj ih =>
      intro j h' Gs bs rs hc f x' kn hj i
      have hjl : j < acts.length := by omega
      have hg : acts[j]? = some acts[j] := List.getElem?_eq_getElem hjl
      refine keeps_act (y := acts[j]) i (by omega) (by omega) (fun K hK => ?_) fun h2 Gs2 bs2 rs2 hc2 f2 x2 kn2 i2 _ => ?_
      · refine reads_base (readsAt_part hr i.q.pt) (by rw [flat_length Act6.row_length]; omega) fun b o hcell => ?_
        have key : ∀ q, q < 6 → h'.cell b (o + (j * 6 + q)) = (acts[j].row)[q]? := fun q hq => by
          have := hcell (j * 6 + q) (by rw [flat_length Act6.row_length]; omega)
          rw [Nat.mul_one, flat_get Act6.row_length acts j q _ hg hq] at this
          exact this
        refine hK b o ?_ ?_ ?_ ?_ ?_ ?_
        · rw [Int.toNat_natCast]; exact key 0 (by omega)
        · rw [Int.toNat_natCast]; exact key 1 (by omega)
        · rw [Int.toNat_natCast]; exact key 2 (by omega)
        · rw [Int.toNat_natCast]; exact key 3 (by omega)
        · rw [Int.toNat_natCast]; exact key 4 (by omega)
        · rw [Int.toNat_natCast]; exact key 5 (by omega)
      · rw [show IntKind.i64.wrap ((j : Int) + 1) = ((j + 1 : Nat) : Int) by rw [i64_in _ (by omega)]; omega]
        exact ih (j + 1) h2 Gs2 bs2 rs2 hc2 f2 x2 kn2 (by omega) i2
  exact loop (min n 40) 0 h5 Gs bs rs hc f _ kn (by omega) i
end Go.Gb
