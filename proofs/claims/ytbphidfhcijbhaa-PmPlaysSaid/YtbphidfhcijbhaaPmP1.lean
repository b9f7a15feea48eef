/- Own text for the seat: PmP1. -/
import Derived.Test.YtbphidfhcijbhaaRf5
set_option linter.unusedVariables false
set_option linter.unusedSimpArgs false
set_option linter.unnecessarySimpa false
set_option linter.deprecated false
namespace Go.Gb
open Go.Proofs IntWalk

/-! ## PmPlays: same, does -/

/-- Both devices. -/
structure Two (h0 h : Heap) (F G : Nat → Prop) (d m : Nat) (s : PmS) : Prop where
  d : PmD F h d s
  m : RfD G h m s
  lf : Live F h
  lg : Live G h
  ap : Apart F G
  p : Part h0 h
  ff : ∀ k, h0 k ≠ none → ¬ F k
  fg : ∀ k, h0 k ≠ none → ¬ G k

theorem Two.part {h0 h h' : Heap} {F G : Nat → Prop} {d m : Nat} {s : PmS} (i : Two h0 h F G d m s) (p : Part h h') : Two h0 h' F G d m s :=
  ⟨i.d.keep fun _ _ hk => part_live p hk, i.m.keep fun _ _ hk => part_live p hk, (Step.of_part p).dom i.lf, (Step.of_part p).dom i.lg, i.ap, i.p.trans p, i.ff, i.fg⟩

theorem Two.next {h0 h h1 h2 : Heap} {F G : Nat → Prop} {d m : Nat} {s s' : PmS} (i : Two h0 h F G d m s) (w1 : PmD F h1 d s') (st1 : Step F h F h1) (w2 : RfD G h2 m s') (st2 : Step G h1 G h2) : Two h0 h2 F G d m s' :=
  ⟨w1.keep (st2.same i.ap.symm), w2, st2.alive (st1.dom i.lf), st2.dom (st1.alive i.lg), i.ap, st2.part (st1.part i.p i.ff) i.fg, i.ff, i.fg⟩

section
variable {h0 h : Heap} {F G : Nat → Prop} {d m : Nat} {s : PmS} {Q : Value → Heap → Prop}

theorem gabionlaw03_same.L17.c {l1 l2 : Option Addr} {c1 c2 : Nat} {ps : List Nat} (hn : ps.length < 1000000) (r1 : readsAt h l1 (rowN ps)) (r2 : readsAt h l2 (rowN ps)) (hq : Q (.bool true) h) : ∀ (j i : Nat), i + j = ps.length →
    gabionlaw03_same.L17 l1 ps.length c1 l2 ps.length c2 (ps.length : Int) (i : Int) h Q := by
  intro j
  induction j with
  | zero =>
    intro i hi
    apply gabionlaw03_same.L17.ok
    exact xsIf_f (decide_eq_false (by omega)) hq
  | succ j ih =>
    intro i hi
    apply gabionlaw03_same.L17.ok
    have hK : i < ps.length := by omega
    have kb : 0 ≤ (i : Int) ∧ (i : Int) < (ps.length : Int) := by omega
    have et : (i : Int).toNat * 1 = i * 1 := by omega
    have g : (rowN ps)[i]? = some (.int .i64 (ps[i] : Nat)) := by simp [hK]
    refine xsIf_t (decide_eq_true (by omega)) ⟨kb, reads_base r1 (by simp; omega) fun b o hc => ⟨kb, reads_base r2 (by simp; omega) fun b2 o2 hc2 => ⟨((ps[i] : Nat) : Int), ?_, ((ps[i] : Nat) : Int), ?_, xsIf_f (decide_eq_false (by exact fun h => h rfl)) ?_⟩⟩⟩
    · rw [et, hc i (by simpa using hK), g]
    · rw [et, hc2 i (by simpa using hK), g]
    · rw [show IntKind.i64.wrap ((i : Int) + 1) = ((i + 1 : Nat) : Int) by rw [i64_in _ (by omega)]; omega]
      exact ih (i + 1) (by omega)

theorem bne_self (b : Bool) : (!b == b) = false := by cases b <;> rfl

theorem gabionlaw03_same.L8.c (i0 : Two h0 h F G d m s) (hq : ∀ h', Part h h' → Q (.bool true) h') : ∀ (j i : Nat), i + j = s.nl → gabionlaw03_same.L8 (some ⟨d, 0, none⟩) (some ⟨m, 0, none⟩) (s.nl : Int) (i : Int) h Q := by
  obtain ⟨wb, rb, bb, q, w⟩ := i0.m
  have h92 := w.hi
  intro j
  induction j with
  | zero =>
    intro i hi
    apply gabionlaw03_same.L8.ok
    refine xsIf_f (decide_eq_false (by omega)) (pm_Device_Pending.c i0.d fun a1 p1 h1 hp1 sl1 => ⟨_, _, _, rfl, gabionref03_Pending.c (i0.part hp1).m fun a2 p2 h2 hp2 sl2 => ⟨_, _, _, rfl, xsIf_f (decide_eq_false (by exact fun h => h rfl)) ?_⟩⟩)
    have i2 := (i0.part hp1).part hp2
    have wd := i2.d
    obtain ⟨wb, rb, bb, q, w⟩ := i2.m
    have hle := pend_length s
    have fin : gabionlaw03_same.J16 a1 (pend s).length p1 a2 (pend s).length p2 h2 Q := by
      apply gabionlaw03_same.J16.ok
      exact gabionlaw03_same.L17.c (by omega) (readsAt_part sl1.reads hp2) sl2.reads (hq h2 (hp1.trans hp2)) (pend s).length 0 (by omega)
    have ne : ∀ {x : Int}, decide (x ≠ x) = false := decide_eq_false (fun h => h rfl)
    refine ⟨m, 0, rfl, pm_Device_Off.c wd ⟨_, rfl, _, w.c4, xsIf_f (bne_self _) ?_⟩, _, w.c4, pm_Device_Off.c wd ⟨_, rfl, xsIf_f (bne_self _) ?_⟩⟩
    all_goals refine ⟨m, 0, rfl, pm_Device_Count.c wd ⟨_, rfl, _, w.c5, xsIf_f ne ?_⟩, _, w.c5, pm_Device_Count.c wd ⟨_, rfl, xsIf_f ne ?_⟩⟩
    all_goals exact ⟨m, 0, rfl, pm_Device_Lines.c wd ⟨_, rfl, _, _, _, w.c1, xsIf_f ne fin⟩, _, _, _, w.c1, pm_Device_Lines.c wd ⟨_, rfl, xsIf_f ne fin⟩⟩
  | succ j ih =>
    intro i hi
    apply gabionlaw03_same.L8.ok
    have hK : i < s.nl := by omega
    have wd := i0.d
    have kb : 0 ≤ (i : Int) ∧ (i : Int) < (s.nl : Int) := by omega
    have ne : ∀ {x : Int}, decide (x ≠ x) = false := decide_eq_false (fun h => h rfl)
    have er : h.cell rb (0 + (i : Int).toNat * 1) = some (.int .i64 (s.wear i)) := by
      rw [show 0 + (i : Int).toNat * 1 = i by omega, w.hr.cell]; exact row_get (fun k => Value.int .i64 (s.wear k)) hK
    have eb : h.cell bb (0 + (i : Int).toNat * 1) = some (.bool (s.bad i)) := by
      rw [show 0 + (i : Int).toNat * 1 = i by omega, w.hb.cell]; exact row_get (fun k => Value.bool (s.bad k)) hK
    have hW : ∀ {Q : Value → Heap → Prop}, Q (.int .i64 (s.wear i)) h → C Try.prog 21 #[.pointer (some ⟨d, 0, none⟩), .int .i64 (i : Int)] h Q := fun hq => pm_Device_Wear.c wd (by rw [if_pos kb]; exact hq)
    have hB : ∀ {Q : Value → Heap → Prop}, Q (.bool (s.bad i)) h → C Try.prog 29 #[.pointer (some ⟨d, 0, none⟩), .int .i64 (i : Int)] h Q := fun hq => pm_Device_Bad.c wd (by rw [if_pos kb]; exact hq)
    have nx : gabionlaw03_same.L8 (some ⟨d, 0, none⟩) (some ⟨m, 0, none⟩) (s.nl : Int) (IntKind.i64.wrap ((i : Int) + 1)) h Q := by
      rw [show IntKind.i64.wrap ((i : Int) + 1) = ((i + 1 : Nat) : Int) by rw [i64_in _ (by omega)]; omega]
      exact ih (i + 1) (by omega)
    refine xsIf_t (decide_eq_true (by omega)) ⟨m, 0, rfl, hW ⟨_, rfl, _, _, _, w.c1, kb, rb, 0, rfl, _, er, xsIf_f ne ?_⟩, _, _, _, w.c1, kb, rb, 0, rfl, hW ⟨_, rfl, _, er, xsIf_f ne ?_⟩, _, er, hW ⟨_, rfl, xsIf_f ne ?_⟩⟩
    all_goals exact ⟨m, 0, rfl, hB ⟨_, rfl, _, _, _, w.c2, kb, bb, 0, rfl, _, eb, xsIf_f (bne_self _) nx⟩, _, _, _, w.c2, kb, bb, 0, rfl, hB ⟨_, rfl, _, eb, xsIf_f (bne_self _) nx⟩, _, eb, hB ⟨_, rfl, xsIf_f (bne_self _) nx⟩⟩

theorem gabionlaw03_same.c (i0 : Two h0 h F G d m s) (hq : ∀ h', Part h h' → Q (.bool true) h') : C Try.prog 24 #[.pointer (some ⟨d, 0, none⟩), .pointer (some ⟨m, 0, none⟩)] h Q := by
  obtain ⟨wb, rb, bb, q, w⟩ := i0.m
  have h92 := w.hi
  apply gabionlaw03_same.ok
  refine ⟨m, 0, rfl, _, _, _, w.c0, ?_⟩
  have loop : ∀ (j i : Nat), i + j = 8 * s.nl → gabionlaw03_same.L2 (some ⟨d, 0, none⟩) (some ⟨m, 0, none⟩) (some ⟨wb, 0, none⟩) (8 * s.nl) (8 * s.nl) ((8 * s.nl : Nat) : Int) (i : Int) h Q := by
    intro j
    induction j with
    | zero =>
      intro i hi
      apply gabionlaw03_same.L2.ok
      exact xsIf_f (decide_eq_false (by omega)) ⟨m, 0, rfl, _, _, _, w.c1, gabionlaw03_same.L8.c i0 hq s.nl 0 (by omega)⟩
    | succ j ih =>
      intro i hi
      apply gabionlaw03_same.L2.ok
      have hK : i < 8 * s.nl := by omega
      have kb : 0 ≤ (i : Int) ∧ (i : Int) < ((8 * s.nl : Nat) : Int) := by omega
      have r := w.rel i hK
      refine xsIf_t (decide_eq_true (by omega)) ⟨kb, wb, 0, rfl, (q i).media, ?_, (q i).there, ?_, (q i).v, ?_, (q i).fl, ?_, pm_Device_Media.c i0.d ⟨_, rfl, ?_⟩⟩
      · rw [show 0 + (i : Int).toNat * 4 = 4 * i + 0 by omega]; exact w.wc hK (by omega)
      · rw [show 0 + (i : Int).toNat * 4 + 1 = 4 * i + 1 by omega]; exact w.wc hK (by omega)
      · rw [show 0 + (i : Int).toNat * 4 + 1 + 1 = 4 * i + 2 by omega]; exact w.wc hK (by omega)
      · rw [show 0 + (i : Int).toNat * 4 + 1 + 1 + 1 = 4 * i + 3 by omega]; exact w.wc hK (by omega)
      · rw [if_pos kb, Int.toNat_natCast, r.1]
        refine xsIf_f (decide_eq_false (fun h => h rfl)) ?_
        rw [show IntKind.i64.wrap ((i : Int) + 1) = ((i + 1 : Nat) : Int) by rw [i64_in _ (by omega)]; omega]
        exact ih (i + 1) (by omega)
  exact loop (8 * s.nl) 0 (by omega)

theorem bools_at {ka : Option Addr} {ks : List Bool} {n : Nat} (hr : readsAt h ka (ks.map Value.bool)) : BoolsAt h ka (ks.take n) := fun i hi => by
  have hi2 : i < ks.length := by rw [List.length_take] at hi; omega
  have hin : i < n := by rw [List.length_take] at hi; omega
  rcases hr with h1 | ⟨b, o, rfl, hc⟩
  · exfalso
    have : ks.length = 0 := by simpa using congrArg List.length h1
    omega
  · have e := hc i (by simpa using hi2)
    have e2 : h.cell b (o + i) = some (.bool ((ks.take n).getD i false)) := by rw [e]; simp [hi2, hin, List.getElem?_take]
    refine ⟨b, o, rfl, fun hn => ?_, by rw [Nat.mul_one]; exact e2⟩
    unfold Heap.cell at e2; rw [hn] at e2; cases e2

theorem gabionlaw03_does.c {a0 a1 a2 : Int} {ka : Option Addr} {kc : Nat} {ks : List Bool} (i0 : Two h0 h F G d m s) (h1 : a1 < 9223372036854775808) (hr : readsAt h0 ka (ks.map Value.bool)) (hkc : ks.length ≤ kc)
    (hq : ∀ h' s', Two h0 h' F G d m s' → Q (.bool true) h') : C Try.prog 23 #[.pointer (some ⟨d, 0, none⟩), .pointer (some ⟨m, 0, none⟩), .agg #[.int .i64 a0, .int .i64 a1, .int .u64 a2, .slice ka ks.length kc]] h Q := by
  apply gabionlaw03_does.ok
  unfold gabionlaw03_does.wp
  have same1 : ∀ {x : Int}, decide (x = x) = true := decide_eq_true rfl
  have store : gabionlaw03_does.J4 (some ⟨d, 0, none⟩) (some ⟨m, 0, none⟩) a0 a1 a2 ka ks.length kc h Q := by
    apply gabionlaw03_does.J4.ok
    refine pm_Device_Store.c i0.d fun h1 w1 st1 => ⟨_, rfl, gabionref03_Store.c (i0.m.keep (st1.same i0.ap)) fun h2 w2 st2 => ⟨_, rfl, ?_⟩⟩
    rw [same1]; exact hq h2 _ (i0.next w1 st1 w2 st2)
  have flush : C Try.prog 15 #[.pointer (some ⟨d, 0, none⟩), .int .i64 a1] h fun (r : Value) (h' : Heap) => ∃ (x : Int), r = .int .i64 x ∧ C Try.prog 57 #[.pointer (some ⟨m, 0, none⟩), .int .i64 a1] h' fun (r : Value) (h' : Heap) => ∃ (x_1 : Int), r = .int .i64 x_1 ∧ Q (.bool (decide (x = x_1))) h' := by
    refine pm_Device_Flush.c i0.d fun h1 w1 st1 => ⟨_, rfl, gabionref03_Flush.c (i0.m.keep (st1.same i0.ap)) fun h2 w2 st2 => ⟨_, rfl, ?_⟩⟩
    rw [same1]; exact hq h2 _ (i0.next w1 st1 w2 st2)
  have fence : C Try.prog 16 #[.pointer (some ⟨d, 0, none⟩)] h fun (r : Value) (h' : Heap) => ∃ (x : Int), r = .int .i64 x ∧ C Try.prog 58 #[.pointer (some ⟨m, 0, none⟩)] h' fun (r : Value) (h' : Heap) => ∃ (x_1 : Int), r = .int .i64 x_1 ∧ Q (.bool (decide (x = x_1))) h' := by
    refine pm_Device_Fence.c i0.d i0.lf fun h1 w1 st1 => ⟨_, rfl, gabionref03_Fence.c (i0.m.keep (st1.same i0.ap)) (st1.alive i0.lg) fun h2 w2 st2 => ⟨_, rfl, ?_⟩⟩
    rw [same1]; exact hq h2 _ (i0.next w1 st1 w2 st2)
  have brk : C Try.prog 25 #[.pointer (some ⟨d, 0, none⟩), .int .i64 a1] h fun (r : Value) (h' : Heap) => xsIf (decide (0 ≤ a1))
                (atBase (some ⟨m, 0, none⟩) fun (b o : Nat) => ∃ (x : Option Addr), ∃ (n : Nat), ∃ (m_1 : Nat), h'.cell b (o + 2) = some (.slice x n m_1) ∧ xsIf (decide (a1 < (n : Int)))
                            (atBase (some ⟨m, 0, none⟩) fun (b o : Nat) => ∃ (x : Option Addr), ∃ (n : Nat), ∃ (m : Nat), h'.cell b (o + 2) = some (.slice x n m) ∧ (0 ≤ a1 ∧ a1 < (n : Int)) ∧ atBase x fun (b o : Nat) => h'.can b (o + a1.toNat * 1) 1 ∧ Q (.bool true) (h'.put b (o + a1.toNat * 1) [.bool true]))
                            (Q (.bool true) h')) (Q (.bool true) h') := by
    refine pm_Device_Break.c i0.d fun h1 w1 st1 => ?_
    have wm := i0.m.keep (st1.same i0.ap)
    by_cases k0 : 0 ≤ a1
    · refine xsIf_t (decide_eq_true k0) ?_
      obtain ⟨wb, rb, bb, q, w⟩ := wm
      refine ⟨m, 0, rfl, _, _, _, w.c2, ?_⟩
      by_cases k1 : a1 < s.nl
      · refine xsIf_t (decide_eq_true k1) ⟨m, 0, rfl, _, _, _, w.c2, ⟨k0, k1⟩, bb, 0, rfl, w.hb.can (by simp; omega), ?_⟩
        rw [if_pos ⟨k0, k1⟩] at w1
        refine hq _ _ (i0.next w1 st1 (h2 := h1.put bb (0 + a1.toNat * 1) [.bool true]) ?_ (Step.put w.fb _ _))
        have hk : ∀ k, k ≠ bb → h1.put bb (0 + a1.toNat * 1) [.bool true] k = h1 k := fun k hk => put_other h1 _ _ hk
        have ne := w.ne
        refine ⟨wb, rb, bb, q, w.lo, w.hi, w.fm, w.fw, w.fr, w.fb, ne, w.hm.keep (hk _ ne.2.2.1), w.hw.keep (hk _ ne.2.2.2.2.1), w.hr.keep (hk _ ne.2.2.2.2.2), ?_, w.rel, w.f0, w.f1⟩
        exact w.hb.bset
      · refine xsIf_f (decide_eq_false k1) ?_
        rw [if_neg (fun h => k1 h.2)] at w1
        exact hq _ _ (i0.next w1 st1 ⟨wb, rb, bb, q, w⟩ (Step.refl _ _))
    · refine xsIf_f (decide_eq_false k0) ?_
      rw [if_neg (fun h => k0 h.1)] at w1
      exact hq _ _ (i0.next w1 st1 wm (Step.refl _ _))
  have fuse : C Try.prog 26 #[.pointer (some ⟨d, 0, none⟩), .int .i64 a1] h fun (r : Value) (h' : Heap) => atBase (some ⟨m, 0, none⟩) fun (b o : Nat) => h'.can b (o + 3) 1 ∧ Q (.bool true) (h'.put b (o + 3) [.int .i64 (imax a1 0)]) := by
    refine pm_Device_Fuse.c i0.d h1 fun h1 w1 st1 => ?_
    obtain ⟨wb, rb, bb, q, w⟩ := i0.m.keep (st1.same i0.ap)
    have b1 := w.hm.put (0 + 3) [.int .i64 (imax a1 0)]
    refine ⟨m, 0, rfl, w.hm.can (by simp), ?_⟩
    have w2 := w.own (f := imax a1 0) (o := s.off) (n := s.count) b1 (fun k hk => put_other _ _ _ hk) (by rw [imax_eq]; omega) (by rw [imax_eq]; omega)
    exact hq _ _ (i0.next w1 st1 ⟨wb, rb, bb, q, w2⟩ (Step.put w.fm _ _))
  have load : C Try.prog 19 #[.pointer (some ⟨d, 0, none⟩), .int .i64 a1] h fun (r : Value) (h' : Heap) => ∃ (x : Int), ∃ (x_1 : Int), r = .tuple #[.int .u64 x, .int .i64 x_1] ∧
      C Try.prog 59 #[.pointer (some ⟨m, 0, none⟩), .int .i64 a1] h' fun (r : Value) (h' : Heap) => ∃ (x_2 : Int), ∃ (x_3 : Int), r = .tuple #[.int .u64 x_2, .int .i64 x_3] ∧ xsIf (decide (x = x_2)) (Q (.bool (decide (x_1 = x_3))) h') (Q (.bool false) h') := by
    refine pm_Device_Load.c i0.d ⟨_, _, rfl, gabionref03_Load.c i0.m ⟨_, _, rfl, xsIf_t same1 ?_⟩⟩
    rw [same1]; exact hq h _ i0
  have boot : (0 ≤ imin (ks.length : Int) 100 ∧ imin (ks.length : Int) 100 ≤ (kc : Int)) ∧
      C Try.prog 18 #[.pointer (some ⟨d, 0, none⟩), .slice (slBase ka (kc : Int) 0 1) (imin (ks.length : Int) 100 - 0).toNat ((kc : Int) - 0).toNat] h fun (r : Value) (h' : Heap) =>
        C Try.prog 41 #[.pointer (some ⟨m, 0, none⟩), .slice (slBase ka (kc : Int) 0 1) (imin (ks.length : Int) 100 - 0).toNat ((kc : Int) - 0).toNat] h' fun (r : Value) (h' : Heap) => Q (.bool true) h' := by
    have hm : imin (ks.length : Int) 100 = ((min ks.length 100 : Nat) : Int) := by rw [imin_eq]; omega
    rw [hm, slBase0, show (((min ks.length 100 : Nat) : Int) - 0).toNat = (ks.take 100).length by rw [List.length_take]; omega]
    refine ⟨by omega, pm_Device_Boot.c i0.d i0.lf (bools_at (readsAt_part hr i0.p)) fun h1 w1 st1 => gabionref03_Boot.c (i0.m.keep (st1.same i0.ap)) (st1.alive i0.lg) (bools_at (readsAt_part hr (st1.part i0.p i0.ff))) fun h2 w2 st2 => hq h2 _ (i0.next w1 st1 w2 st2)⟩
  have idle : Q (.bool true) h := hq h s i0
  repeat' (first | exact store | exact flush | exact fence | exact brk | exact fuse | exact load | exact boot | exact idle | (refine xsIf_intro (fun _ => ?_) (fun _ => ?_)))
end
end Go.Gb
