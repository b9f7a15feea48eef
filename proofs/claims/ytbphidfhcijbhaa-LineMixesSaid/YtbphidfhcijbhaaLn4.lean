/- Own text for the seat: Ln4. -/
import Derived.Test.YtbphidfhcijbhaaLn3
set_option linter.unusedVariables false
set_option linter.unusedSimpArgs false
set_option linter.unnecessarySimpa false
set_option linter.deprecated false
namespace Go.Gb
open Go.Proofs IntWalk

/-! ## gabionlaw04: wakes, LineNone, LineCosts -/

section
variable {h : Heap} {Q : Value → Heap → Prop} {a : Int}

theorem pm_Device_Off.nil (hq : Q (.bool false) h) : C Try.prog 28 #[.pointer none] h Q := by
  apply pm_Device_Off.ok
  exact xsIf_f rfl hq

theorem line_there.nil (hq : Q (.int .i64 1) h) : C Try.prog 61 #[.pointer none, .int .i64 a] h Q := by
  apply line_there.ok
  exact xsIf_t rfl hq
theorem line_Get.nil (hq : Q (.tuple #[.string ⟨#[]⟩, .int .i64 1]) h) : C Try.prog 30 #[.pointer none, .int .i64 a] h Q := by
  apply line_Get.ok
  exact line_there.nil ⟨_, rfl, xsIf_t (by decide) (pm_Device_Off.nil ⟨_, rfl, xsIf_t rfl hq⟩)⟩
theorem line_Put.nil {b : ByteArray} (hq : Q (.int .i64 1) h) : C Try.prog 32 #[.pointer none, .int .i64 a, .string b] h Q := by
  apply line_Put.ok
  exact le_Words.c2 fun f _ => ⟨_, _, _, _, _, _, _, _, _, rfl, line_there.nil ⟨_, rfl, xsIf_t (by decide) hq⟩⟩
theorem line_PutWord.nil {k v : Int} (hq : Q (.int .i64 1) h) : C Try.prog 33 #[.pointer none, .int .i64 a, .int .i64 k, .int .u64 v] h Q := by
  apply line_PutWord.ok
  exact line_there.nil ⟨_, rfl, xsIf_t (by decide) hq⟩
theorem line_Took.nil {b : ByteArray} (hq : Q (.bool false) h) : C Try.prog 34 #[.pointer none, .int .i64 a, .string b] h Q := by
  apply line_Took.ok
  refine le_Words.c2 fun f _ => ⟨_, _, _, _, _, _, _, _, _, rfl, xsIf_intro (fun _ => hq) fun _ => line_there.nil ⟨_, rfl, xsIf_t (by decide) hq⟩⟩
end

theorem Cl.of {s : PmS} (c : Cl { s with count := 0 }) (h0 : 0 ≤ s.count) (h1 : s.count < 1000000000) : Cl s := ⟨c.off, c.fuse, c.buf, h0, h1⟩
theorem Cl.new (n : Nat) : Cl (pnew n) := ⟨rfl, rfl, fun _ _ => rfl, Int.le_refl _, by show (0 : Int) < _; omega⟩

theorem bytes_word_eq {b c : ByteArray} (hb : b.size = 64) (hc : c.size = 64) (h : ∀ k, k < 8 → wordAt b k = wordAt c k) : b = c := by
  rw [← lnbytes_words b hb, ← lnbytes_words c hc]
  unfold lnbytes
  rw [textN_congr 8 h]

theorem lnget_clean {s : PmS} {a : Nat} {b : ByteArray} (cl : Cl s) (ok : PmOk s) (ha : a < s.nl) (hb : b.size = 64) (hm : ∀ k, k < 8 → s.media (8 * a + k) = ((wordAt b k : Nat) : Int)) : lnget s (a : Int) = (b, 0) := by
  unfold lnget
  rw [cl.off, if_neg (by simp), if_pos (by unfold lthere; rw [if_pos (by omega)]), Int.toNat_natCast]
  congr 1
  refine Eq.trans ?_ (lnbytes_words b hb)
  unfold lnbytes
  rw [textN_congr 8]
  intro k hk
  show (pval s (8 * a + k)).toNat = _
  unfold pval
  rw [cl.buf _ (by omega)]
  show (s.media (8 * a + k)).toNat = _
  rw [hm k hk]; omega

set_option maxRecDepth 100000 in
theorem abc_word : wordAt (fullB ⟨#[UInt8.ofNat 97, UInt8.ofNat 98, UInt8.ofNat 99]⟩) 0 ≠ 0 := by
  have : wordAt (fullB ⟨#[UInt8.ofNat 97, UInt8.ofNat 98, UInt8.ofNat 99]⟩) 0 = 6513249 := by kernel_rfl
  rw [this]; decide

theorem gabionlaw04_wakes.c {h : Heap} {Q : Value → Heap → Prop} (hq : ∀ h', Part h h' → Q (.bool true) h') : C Try.prog 31 #[] h Q := by
  apply gabionlaw04_wakes.ok
  refine pm_New.c (n := 2) (by omega) (by omega) fun d F h1 w1 fr lv1 p1 => ⟨_, _, rfl, gabionlaw04_full.c (by show 3 ≤ _; omega) ⟨_, rfl, xsIf_f (by decide) (xsIf_f rfl ?_)⟩⟩
  have fs := fullB_size ⟨#[UInt8.ofNat 97, UInt8.ofNat 98, UInt8.ofNat 99]⟩
  have w0 := abc_word
  generalize fullB ⟨#[UInt8.ofNat 97, UInt8.ofNat 98, UInt8.ofNat 99]⟩ = b at fs w0
  obtain ⟨s1, e1, c1, n1, b1, k1, m1⟩ := lnput_clean (s := pnew 2) (a := 1) (Cl.new 2) (by show 1 < 2; omega) fs
  have cl1 : Cl s1 := c1.of (by rw [k1]; show (0 : Int) ≤ 0 + 10; omega) (by rw [k1]; show (0 : Int) + 10 < _; omega)
  have ok1 : PmOk s1 := by have := (PmOk.new 2).put (1 : Nat) b; rw [e1] at this; exact this
  refine line_Put.c w1 lv1 fun h2 w2 st2 => ⟨_, rfl, ?_⟩
  rw [show lnput (pnew 2) 1 b = (0, s1) from e1] at w2 ⊢
  have tk : lntook s1 1 b := ⟨fs, by unfold lthere; rw [n1]; rfl, fun k hk => by
    rw [m1 _ (by show 8 * 1 + k < 8 * 2; omega), if_pos ⟨by show (8 * 1 + k) / 8 = 1; omega, rfl⟩, show (8 * (1 : Int).toNat + k) % 8 = k by show (8 * 1 + k) % 8 = k; omega]⟩
  refine xsIf_f rfl (line_Took.c w2 (fun _ => ⟨_, rfl, xsIf_f rfl ?_⟩) fun h => absurd tk h)
  apply gabionlaw04_wakes.J5.ok
  refine pm_Device_Break.c w2 fun h3 w3 st3 => ?_
  have n1' : s1.nl = 2 := n1
  rw [if_pos (show (0 : Int) ≤ 0 ∧ (0 : Int) < (s1.nl : Int) by omega)] at w3
  have lv3 := st3.dom (st2.dom lv1)
  obtain ⟨s2, hs2⟩ : ∃ s2 : PmS, s2 = { s1 with bad := fset s1.bad (Int.toNat 0) true } := ⟨_, rfl⟩
  rw [← hs2] at w3
  have cl2 : Cl s2 := by rw [hs2]; exact ⟨cl1.off, cl1.fuse, cl1.buf, cl1.c0, cl1.c1⟩
  have ok2 : PmOk s2 := by rw [hs2]; exact ⟨ok1.media, ok1.buf⟩
  have n2 : s2.nl = 2 := by rw [hs2]; exact n1'
  have b2 : s2.bad 0 = true := by rw [hs2]; rfl
  have m2 : s2.media = s1.media := by rw [hs2]
  have g2 : lnget s2 ((1 : Nat) : Int) = (b, 0) := lnget_clean cl2 ok2 (by omega) fs fun k hk => by rw [m2]; exact tk.2.2 k hk
  refine line_Get.c w3 ok2 ⟨_, _, rfl, ?_⟩
  rw [show lnget s2 1 = (b, 0) from g2]
  have kk : s2.count = 10 := by rw [hs2]; exact k1
  obtain ⟨s3, e3, c3, n3, b3, k3, m3⟩ := lnput_clean (s := s2) (a := 0) cl2 (by omega) fs
  refine line_Put.c w3 lv3 fun h4 w4 st4 => ⟨_, rfl, ?_⟩
  rw [show lnput s2 0 b = (0, s3) from e3] at w4 ⊢
  have nt : ¬ lntook s3 0 b := fun t => by
    have h5 := t.2.2 0 (by omega)
    rw [show 8 * (0 : Int).toNat + 0 = 0 from rfl, m3 0 (by omega), if_neg (fun h => by rw [b2] at h; cases h.2), m2, m1 0 (by show 0 < 8 * 2; omega), if_neg (fun h => by omega)] at h5
    have h5 : (0 : Int) = ((wordAt b 0 : Nat) : Int) := h5
    omega
  refine xsIf_t rfl (line_Took.c w4 (fun t => absurd t nt) fun _ => ⟨_, rfl, xsIf_t rfl (xsIf_t rfl ?_)⟩)
  rw [decide_eq_true (show b = b from rfl)]
  refine hq h4 fun k o hk => ?_
  have hn0 : h k ≠ none := by rw [hk]; simp
  have hF : ¬ F k := fun hf => hn0 (fr k hf)
  have h1k := p1 k o hk
  have t := (st2.trans st3).trans st4
  rw [t.keep k hF (by rw [h1k]; simp)]; exact h1k

theorem gabionlaw04_LineNone.law (at0 : Int) (ha : IntKind.i64.min ≤ at0 ∧ at0 ≤ IntKind.i64.max) (k : Int) (hk : IntKind.i64.min ≤ k ∧ k ≤ IntKind.i64.max) (s : ByteArray) (hs : s.size ≤ 140737488351232) (h : Heap) :
    C Try.prog 7 #[.int .i64 at0, .int .i64 k, .string s] h fun v h' => v = .bool true ∧ Part h h' := by
  apply gabionlaw04_LineNone.ok
  refine pm_New.c (n := 2) (by omega) (by omega) fun d F h1 w1 fr lv1 p1 => ⟨_, _, rfl, line_Get.nil ⟨_, _, rfl, gabionlaw04_wakes.c fun h2 p2 => ⟨_, rfl, xsIf_f rfl (xsIf_f (by decide) (xsIf_f (by decide) (line_Put.nil ⟨_, rfl, xsIf_f (by decide)
    (line_PutWord.nil ⟨_, rfl, xsIf_f (by decide) (gabionlaw04_full.c (by show 0 ≤ _; omega) ⟨_, rfl, line_Took.nil ⟨_, rfl, xsIf_f rfl ?_⟩⟩)⟩)⟩)))⟩⟩⟩
  have w2 : PmD F h2 d (pnew 2) := w1.keep fun k _ hk => part_live p2 hk
  have lv2 := (Step.of_part (F := F) p2).dom lv1
  have P2 : Part h h2 := p1.trans p2
  apply gabionlaw04_LineNone.J5.ok
  have main : ¬ (0 ≤ at0 ∧ at0 < 2) → gabionlaw04_LineNone.J7 at0 k s (some ⟨d, 0, none⟩) h2 fun v h' => v = .bool true ∧ Part h h' := by
    intro hno
    apply gabionlaw04_LineNone.J7.ok
    have lt : lthere (pnew 2) at0 = 3 := by unfold lthere; exact if_neg hno
    have eg : lnget (pnew 2) at0 = (⟨#[]⟩, 3) := by unfold lnget; rw [lt]; rfl
    have nt : ∀ b, ¬ lntook (pnew 2) at0 b := fun b t => by have := t.2.1; rw [lt] at this; cases this
    refine line_Get.c w2 (PmOk.new 2) ⟨_, _, rfl, ?_⟩
    rw [eg]
    have ew : lnputw (pnew 2) at0 k 1 = ((if 0 ≤ k ∧ k < 8 then 3 else 2), pnew 2) := by
      unfold lnputw; rw [lt]; split <;> rfl
    have ep : ∀ b : ByteArray, b.size = 64 → lnput (pnew 2) at0 b = (3, pnew 2) := fun b hb => by unfold lnput; rw [if_pos hb, lt]; rfl
    refine line_PutWord.c w2 lv2 fun h3 w3 st3 => ⟨_, rfl, xsIf_t rfl (gabionlaw04_full.c hs ⟨_, rfl, ?_⟩)⟩
    rw [ew] at w3 ⊢
    have P3 : Part h h3 := st3.part P2 fun k hk hf => hk (fr k hf)
    refine line_Put.c w3 (st3.dom lv2) fun h4 w4 st4 => ⟨_, rfl, ?_⟩
    rw [ep _ (fullB_size s)] at w4 ⊢
    have P4 : Part h h4 := st4.part P3 fun k hk hf => hk (fr k hf)
    have fin : C Try.prog 35 #[.string ⟨#[]⟩] h4 fun (r : Value) (h' : Heap) => ∃ (x : ByteArray), r = .string x ∧ C Try.prog 34 #[.pointer (some ⟨d, 0, none⟩), .int .i64 at0, .string x] h' fun (r : Value) (h' : Heap) => ∃ (x : Bool), r = .bool x ∧ (Value.bool !x) = .bool true ∧ Part h h' :=
      gabionlaw04_full.c (by show 0 ≤ _; omega) ⟨_, rfl, line_Took.c w4 (fun t => absurd t (nt _)) fun _ => ⟨_, rfl, rfl, P4⟩⟩
    refine xsIf_t rfl ?_
    by_cases k0 : 0 ≤ k
    · by_cases k8 : k < 8
      · rw [if_pos ⟨k0, k8⟩]
        refine xsIf_f (decide_eq_false (by omega)) (xsIf_t ?_ (xsIf_t (decide_eq_true k0) (xsIf_t ?_ fin)))
        · rw [decide_eq_false (show ¬ 7 < k by omega)]; rfl
        · rw [decide_eq_true (show k ≤ 7 by omega)]; rfl
      · rw [if_neg (fun h => k8 h.2)]
        refine xsIf_f (decide_eq_false (by omega)) (xsIf_t ?_ (xsIf_t (decide_eq_true k0) (xsIf_t ?_ fin)))
        · rw [decide_eq_true (show 7 < k by omega)]; rfl
        · rw [decide_eq_false (show ¬ k ≤ 7 by omega)]; rfl
    · rw [if_neg (fun h => k0 h.1)]
      exact xsIf_t (decide_eq_true (by omega)) (xsIf_t rfl (xsIf_f (decide_eq_false k0) (xsIf_t rfl fin)))
  by_cases a0 : 0 ≤ at0
  · by_cases a2 : at0 < 2
    · exact xsIf_t (decide_eq_true a0) (xsIf_t (decide_eq_true a2) ⟨rfl, P2⟩)
    · exact xsIf_t (decide_eq_true a0) (xsIf_f (decide_eq_false a2) (main fun h => a2 h.2))
  · exact xsIf_f (decide_eq_false a0) (main fun h => a0 h.1)

/-- What a put costs. -/
theorem lnput_cost {s : PmS} {b : ByteArray} (cl : Cl s) (x : Int) (hb : b.size = 64) (hc : s.count < 10000) : ∃ f s', lnput s x b = (f, s') ∧ Cl s' ∧ s'.nl = s.nl ∧ ((f = 0 ∧ s'.count = s.count + 10) ∨ (f = 3 ∧ s'.count = s.count)) := by
  have c0 := cl.c0
  by_cases ht : lthere s x = 0
  · obtain ⟨n, rfl, hn⟩ := lthere_ok ht
    obtain ⟨s', e, c, n', _, k, _⟩ := lnput_clean cl hn hb
    exact ⟨0, s', e, c.of (by omega) (by omega), n', .inl ⟨rfl, k⟩⟩
  · refine ⟨3, s, ?_, cl, rfl, .inr ⟨rfl, rfl⟩⟩
    unfold lnput; rw [if_pos hb, if_neg ht]
theorem lnputw_cost {s : PmS} (cl : Cl s) (x k v : Int) (hc : s.count < 10000) : ∃ f s', lnputw s x k v = (f, s') ∧ Cl s' ∧ s'.nl = s.nl ∧ ((f = 0 ∧ s'.count = s.count + 3) ∨ ((f = 2 ∨ f = 3) ∧ s'.count = s.count)) := by
  have c0 := cl.c0
  by_cases hk : 0 ≤ k ∧ k < 8
  · by_cases ht : lthere s x = 0
    · obtain ⟨n, rfl, hn⟩ := lthere_ok ht
      obtain ⟨k, rfl⟩ : ∃ j : Nat, k = j := ⟨k.toNat, by omega⟩
      obtain ⟨s', e, c, n', _, k, _⟩ := lnputw_clean (v := v) cl hn (show k < 8 by omega)
      exact ⟨0, s', e, c.of (by omega) (by omega), n', .inl ⟨rfl, k⟩⟩
    · refine ⟨3, s, ?_, cl, rfl, .inr ⟨.inr rfl, rfl⟩⟩
      unfold lnputw; rw [if_pos hk, if_neg ht]
  · refine ⟨2, s, ?_, cl, rfl, .inr ⟨.inl rfl, rfl⟩⟩
    unfold lnputw; rw [if_neg hk]

theorem gabionlaw04_LineCosts.law (at0 : Int) (ha : IntKind.i64.min ≤ at0 ∧ at0 ≤ IntKind.i64.max) (k : Int) (hk : IntKind.i64.min ≤ k ∧ k ≤ IntKind.i64.max) (s : ByteArray) (hs : s.size ≤ 140737488351232) (h : Heap) :
    C Try.prog 9 #[.int .i64 at0, .int .i64 k, .string s] h fun v h' => v = .bool true ∧ Part h h' := by
  apply gabionlaw04_LineCosts.ok
  refine pm_New.c (n := 2) (by omega) (by omega) fun d F h1 w1 fr lv1 p1 => ⟨_, _, rfl, gabionlaw04_wakes.c fun h2 p2 => ⟨_, rfl, xsIf_f rfl (xsIf_f (by decide) (xsIf_f rfl ?_))⟩⟩
  have w2 : PmD F h2 d (pnew 2) := w1.keep fun k _ hk => part_live p2 hk
  have lv2 := (Step.of_part (F := F) p2).dom lv1
  have P2 : Part h h2 := p1.trans p2
  apply gabionlaw04_LineCosts.J4.ok
  intro b hb
  have fb : ¬ F b := fun hf => lv2 b hf hb
  have hfr : ∀ k, h k ≠ none → ¬ F k := fun k hk hf => hk (fr k hf)
  have hcell : ∀ i, i < 2 → ∃ x, (upd h2 b (Obj.cells #[.int .i64 at0, .int .i64 (irem (imax 0 at0) 2)] 3 (0, 0))).cell b (0 + i * 1) = some (.int .i64 x) := fun i hi => by
    rcases (show i = 0 ∨ i = 1 by omega) with rfl | rfl
    · exact ⟨at0, by simp [Heap.cell, upd_same]⟩
    · exact ⟨irem (imax 0 at0) 2, by simp [Heap.cell, upd_same]⟩
  have w3 : PmD F (upd h2 b (Obj.cells #[.int .i64 at0, .int .i64 (irem (imax 0 at0) 2)] 3 (0, 0))) d (pnew 2) := w2.keep fun k hk _ => upd_ne fun e => fb (e ▸ hk)
  have lv3 : Live F (upd h2 b (Obj.cells #[.int .i64 at0, .int .i64 (irem (imax 0 at0) 2)] 3 (0, 0))) := (Step.lost hb _).dom lv2
  have P3 : Part h (upd h2 b (Obj.cells #[.int .i64 at0, .int .i64 (irem (imax 0 at0) 2)] 3 (0, 0))) := fun k o hk => by
    rw [upd_ne (fun e => by have := P2 k o hk; rw [e, hb] at this; cases this)]; exact P2 k o hk
  have nb3 : (upd h2 b (Obj.cells #[.int .i64 at0, .int .i64 (irem (imax 0 at0) 2)] 3 (0, 0))) b ≠ none := by rw [upd_same]; simp
  generalize upd h2 b (Obj.cells #[.int .i64 at0, .int .i64 (irem (imax 0 at0) 2)] 3 (0, 0)) = h3 at hcell w3 lv3 P3 nb3
  have loop : ∀ (j i : Nat) (h' : Heap) (s' : PmS), i + j = 2 → PmD F h' d s' → Live F h' → Part h h' → h' b = h3 b → Cl s' → PmOk s' → s'.count ≤ 13 * i →
      gabionlaw04_LineCosts.L5 k s (some ⟨d, 0, none⟩) (some ⟨b, 0, none⟩) 2 2 2 (i : Int) h' fun v h' => v = .bool true ∧ Part h h' := by
    intro j
    induction j with
    | zero =>
      intro i h' s' hi w lv p eb cl ok hc
      apply gabionlaw04_LineCosts.L5.ok
      exact xsIf_f (decide_eq_false (by omega)) ⟨rfl, p⟩
    | succ j ih =>
      intro i h' s' hi w lv p eb cl ok hc
      apply gabionlaw04_LineCosts.L5.ok
      obtain ⟨x, hx⟩ := hcell i (by omega)
      have hx' : h'.cell b (0 + (i : Int).toNat * 1) = some (.int .i64 x) := by rw [cell_same eb, Int.toNat_natCast]; exact hx
      have c0 := cl.c0
      obtain ⟨f, s1, e1, cl1, n1, k1⟩ := lnput_cost cl x (fullB_size s) (by omega)
      have ok1 : PmOk s1 := by have := ok.put x (fullB s); rw [e1] at this; exact this
      obtain ⟨g, s2, e2, cl2, n2, k2⟩ := lnputw_cost cl1 x k 5 (by omega)
      have ok2 : PmOk s2 := by have := ok1.putw x k (v := 5) ⟨by omega, by omega⟩; rw [e2] at this; exact this
      refine xsIf_t (decide_eq_true (by omega)) ⟨by show 0 ≤ (i : Int) ∧ (i : Int) < 2; omega, b, 0, rfl, x, hx', pm_Device_Count.c w ⟨_, rfl, gabionlaw04_full.c hs ⟨_, rfl, line_Put.c w lv fun h4 w4 st4 => ⟨_, rfl, ?_⟩⟩⟩⟩
      rw [e1] at w4 ⊢
      refine pm_Device_Count.c w4 ⟨_, rfl, line_PutWord.c w4 (st4.dom lv) fun h5 w5 st5 => ⟨_, rfl, ?_⟩⟩
      dsimp only at w4 w5 ⊢
      rw [e2] at w5 ⊢
      have st := st4.trans st5
      refine pm_Device_Count.c w5 ⟨_, rfl, line_Get.c w5 ok2 ⟨_, _, rfl, ?_⟩⟩
      dsimp only
      have e3 : IntKind.i64.wrap (s'.count + 10) = s'.count + 10 := i64_in _ (by omega)
      have e4 : IntKind.i64.wrap (s1.count + 3) = s1.count + 3 := i64_in _ (by omega)
      rw [e3, e4]
      have nx : gabionlaw04_LineCosts.L5 k s (some ⟨d, 0, none⟩) (some ⟨b, 0, none⟩) 2 2 2 (IntKind.i64.wrap ((i : Int) + 1)) h5 fun v h' => v = .bool true ∧ Part h h' := by
        rw [show IntKind.i64.wrap ((i : Int) + 1) = ((i + 1 : Nat) : Int) by rw [i64_in _ (by omega)]; omega]
        exact ih (i + 1) h5 s2 (by omega) w5 (st.dom lv) (st.part p hfr) (by rw [st.keep b fb (by rw [eb]; exact nb3), eb]) cl2 ok2 (by omega)
      have fin : C Try.prog 27 #[.pointer (some ⟨d, 0, none⟩)] h5 fun (r : Value) (h' : Heap) => ∃ (x : Int), r = .int .i64 x ∧ xsIf (decide (x ≠ s2.count)) ((Value.bool false) = .bool true ∧ Part h h') (gabionlaw04_LineCosts.L5 k s (some ⟨d, 0, none⟩) (some ⟨b, 0, none⟩) 2 2 2 (IntKind.i64.wrap ((i : Int) + 1)) h' fun v h' => v = .bool true ∧ Part h h') :=
        pm_Device_Count.c w5 ⟨_, rfl, xsIf_f (decide_eq_false (fun h => h rfl)) nx⟩
      repeat' (first | exact fin | refine xsIf_intro (fun hh => ?_) (fun hh => ?_))
      all_goals
        exfalso
        simp only [decide_eq_true_eq, decide_eq_false_iff_not, ne_eq, Decidable.not_not] at *
        omega
  exact loop 2 0 h3 _ (by omega) w3 lv3 P3 rfl (Cl.new 2) (PmOk.new 2) (by show (0 : Int) ≤ _; omega)
end Go.Gb
