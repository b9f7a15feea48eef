/- Own text for the seat: Desc4. -/
import Derived.Test.YtmonhmmnnekniabDesc3
import Derived.Test.YtmonhmmnnekniabGbArgs
set_option linter.unusedVariables false
set_option linter.unusedSimpArgs false
set_option linter.unnecessarySimpa false
set_option linter.deprecated false
namespace Go.Gb
open Go.Proofs IntWalk

/-! ## desc: DescMakes, DescLeast, DescApart -/

theorem slBase_zero (a : Option Addr) (c : Int) (sz : Nat) : slBase a c 0 sz = a := by
  unfold slBase
  split
  · rfl
  · cases a with
    | none => rfl
    | some x => simp [Addr.add]

theorem readsAt_take {h : Heap} {a : Option Addr} {vs us : List Value} (hr : readsAt h a (vs ++ us)) : readsAt h a vs := by
  cases vs with
  | nil => exact .inl rfl
  | cons v vs =>
    rcases hr with h0 | ⟨b, o, rfl, hc⟩
    · cases h0
    · refine .inr ⟨b, o, rfl, fun j hj => ?_⟩
      rw [hc j (by rw [List.length_append]; omega), List.getElem?_append_left hj]

theorem no_one (h : Heap) : ∀ k, h k ≠ none → ¬ (fun _ : Nat => False) k := fun _ _ h => h

theorem least_eq {M : Nat → Nat → Option Op4} {c fd k : Nat} (h1 : ∀ j, j < fd → M c j ≠ none) (h2 : M c fd = none) (h3 : ∀ j, j < k → M c j ≠ none) (h4 : M c k = none) : fd = k := by
  rcases Nat.lt_trichotomy fd k with h | h | h
  · exact absurd h2 (h3 fd h)
  · exact h
  · exact absurd h4 (h1 k h)

theorem gabionlaw23_wakes.c {h : Heap} {Q : Value → Heap → Prop} (hq : ∀ h', Part h h' → Q (.bool true) h') : C Try.prog 20 #[] h Q := by
  apply gabionlaw23_wakes.ok
  refine desc_New.c (nc := 2) (by omega) (by omega) fun t F1 h1 w1 s1 => ⟨_, _, rfl, ?_⟩
  refine desc_Tables_Add.c (c := 1) w1 (by omega) (by omega) (fun hf => absurd rfl (hf 0 (by omega))) fun fd1 b1 F2 h2 _ l1 e1 w2 s2 => ⟨_, _, rfl, ?_⟩
  obtain rfl : fd1 = 0 := by
    rcases Nat.eq_zero_or_pos fd1 with h0 | h0
    · exact h0
    · exact absurd rfl (l1 0 h0)
  refine desc_Tables_Add.c (c := 1) w2 (by omega) (by omega) (fun hf => absurd rfl (hf 1 (by omega))) fun fd2 b2 F3 h3 _ l2 e2 w3 s3 => ⟨_, _, rfl, ?_⟩
  obtain rfl : fd2 = 1 := least_eq l2 e2 (fun j hj => by obtain rfl : j = 0 := (by omega); rw [setM_same]; simp) rfl
  refine desc_Tables_Close.c (c := 1) (fd := 0) w3 (fun hb => by cases hb) fun e h4 he w4 s4 => ⟨_, _, rfl, ?_⟩
  have he' : e = (b1, 9, 1, 0) := by
    have : some (b1, 9, 1, 0) = some e := he
    cases this; rfl
  subst he'
  refine desc_Tables_Add.c (c := 1) w4 (by omega) (by omega) (fun hf => absurd rfl (hf 0 (by omega))) fun fd3 b3 F5 h5 _ l3 e3 w5 s5 => ⟨_, _, rfl, ?_⟩
  obtain rfl : fd3 = 0 := least_eq l3 e3 (fun j hj => by omega) rfl
  refine xsIf_t rfl (xsIf_t rfl (xsIf_t rfl (xsIf_t rfl (xsIf_t rfl (xsIf_t rfl (xsIf_t rfl (xsIf_t rfl (xsIf_t rfl ?_))))))))
  refine desc_Tables_Count.c (x := 9) w5 ⟨_, rfl, ?_⟩
  have hcnt : cntAll (setM (setM (setM (setM (fun _ _ => none) 1 0 (some (b1, 9, 1, 0))) 1 1 (some (b2, 9, 3, 0))) (Int.toNat 1) (Int.toNat 0) none) 1 0 (some (b3, 8, 2, 0))) 9 2 = 1 := rfl
  rw [hcnt]
  exact hq h5 ((s1.trans (s2.trans (s3.trans (s4.trans s5)))).part (Part.refl h) (no_one h))

theorem makes_step {fd x : Int} {j b : Nat} {h : Heap} {Q : Value → Heap → Prop} (hj : j < 2) (hc : h.cell b (0 + j * 1) = some (.int .i64 x))
    (hq : ∀ h', Part h h' → gabionlaw23_DescMakes.L2 fd (some ⟨b, 0, none⟩) 2 2 ((2 : Nat) : Int) ((j + 1 : Nat) : Int) h' Q) : gabionlaw23_DescMakes.L2 fd (some ⟨b, 0, none⟩) 2 2 ((2 : Nat) : Int) j h Q := by
  apply gabionlaw23_DescMakes.L2.ok
  refine xsIf_t (by simp; omega) ⟨by omega, b, 0, rfl, x, by rw [Int.toNat_natCast]; exact hc, ?_⟩
  rw [i64_in ((j : Int) + 1) (by omega)]
  by_cases hx : 1 ≤ x ∧ x ≤ 8
  · obtain ⟨n, rfl⟩ : ∃ n : Nat, x = n := ⟨x.toNat, by omega⟩
    refine desc_New.c (nc := n) (by omega) (by omega) fun t F' h' w s => ⟨_, _, rfl, ?_⟩
    have h8 : decide ((n : Int) ≤ 8) = true := decide_eq_true hx.2
    rw [h8]
    refine xsIf_t (by simp; omega) (xsIf_f rfl (xsIf_f rfl (xsIf_f rfl (xsIf_t rfl (desc_Tables_Clients.c w ⟨_, rfl, xsIf_f (by simp) ?_⟩)))))
    exact hq h' (s.part (Part.refl h) (no_one h))
  · refine desc_New.bad hx ⟨_, _, rfl, ?_⟩
    refine xsIf_intro (fun h1 => ?_) (fun h1 => xsIf_f rfl (xsIf_f rfl (xsIf_f rfl (hq h (Part.refl h)))))
    have h8 : decide (x ≤ 8) = false := by simp at h1 ⊢; omega
    rw [h8]
    exact xsIf_f rfl (xsIf_t rfl (xsIf_f rfl (xsIf_f rfl (xsIf_f rfl (hq h (Part.refl h))))))

theorem gabionlaw23_DescMakes.law (clients : Int) (hc : IntKind.i64.min ≤ clients ∧ clients ≤ IntKind.i64.max) (fd : Int) (hfd : IntKind.i64.min ≤ fd ∧ fd ≤ IntKind.i64.max) (h : Heap) :
    C Try.prog 10 #[.int .i64 clients, .int .i64 fd] h fun v h' => v = .bool true ∧ Part h h' := by
  apply gabionlaw23_DescMakes.ok
  intro b hb
  refine makes_step (j := 0) (x := clients) (by omega) (by simp [Heap.cell, upd_same]) fun h1 p1 => ?_
  refine makes_step (j := 1) (x := irem (imax 0 clients) 12) (by omega) (p1.cell (by simp [Heap.cell, upd_same])) fun h2 p2 => ?_
  apply gabionlaw23_DescMakes.L2.ok
  refine xsIf_f (by simp) ?_
  apply gabionlaw23_DescMakes.J9.ok
  refine desc_Tables_Add.nil ⟨_, _, rfl, desc_Tables_Get.nil ⟨_, _, _, _, rfl, desc_Tables_Close.nil ⟨_, _, rfl, gabionlaw23_wakes.c fun h3 p3 => ⟨_, rfl, xsIf_t rfl (xsIf_t rfl (xsIf_t rfl (xsIf_t rfl ?_)))⟩⟩⟩⟩
  refine desc_Tables_Seek.nil ⟨_, rfl, xsIf_t rfl (desc_Tables_Clients.nil ⟨_, rfl, xsIf_t rfl (desc_Tables_Count.nil ⟨_, rfl, xsIf_t rfl (desc_Tables_List.nil ⟨_, _, _, rfl, rfl, ?_⟩)⟩)⟩)⟩
  exact (Part.upd hb _).trans (p1.trans (p2.trans p3))

/-! ### the least number -/

def hadOf (M : Nat → Nat → Option Op4) : List Value := (List.range 16).map fun fd => .bool (M 0 fd).isSome
theorem hadOf_get {M : Nat → Nat → Option Op4} {fd : Nat} (hf : fd < 16) : (hadOf M)[fd]? = some (.bool (M 0 fd).isSome) := by simp [hadOf, hf]
theorem hadOf_set {M : Nat → Nat → Option Op4} {fd : Nat} {v : Option Op4} (hf : fd < 16) : (hadOf M).set fd (.bool v.isSome) = hadOf (setM M 0 fd v) := by
  apply List.ext_getElem?
  intro j
  rw [List.getElem?_set]
  by_cases hj : j < 16
  · rw [hadOf_get hj]
    by_cases e : fd = j
    · subst e; rw [if_pos rfl, if_pos (by simp [hadOf]; omega), hadOf_get (by omega), setM_same]
    · rw [if_neg e, hadOf_get hj, setM_other (fun h => e h.2.symm)]
  · have h1 : (hadOf (setM M 0 fd v))[j]? = none := List.getElem?_eq_none (by simp [hadOf]; omega)
    have h2 : (hadOf M)[j]? = none := List.getElem?_eq_none (by simp [hadOf]; omega)
    rw [h1, if_neg (by omega), h2]

theorem u8_nat_of {x : Int} (h : IntKind.u8.min ≤ x ∧ x ≤ IntKind.u8.max) : ∃ n : Nat, x = n ∧ n < 256 := nat_of rfl h

theorem iquo_u8 {a : Nat} (b : Nat) (h : a < 256) : iquo .u8 (a : Int) (b : Int) = ((a / b : Nat) : Int) := by
  unfold iquo
  rw [Int.tdiv_eq_ediv_of_nonneg (by omega)]
  have : (a : Int) / (b : Int) = ((a / b : Nat) : Int) := rfl
  rw [this, u8_nat']
  exact Nat.lt_of_le_of_lt (Nat.div_le_self a b) h

theorem gabionlaw23_DescLeast.law (v : Value) (h : Heap) (hv : Okc Try.prog h 8 36 [v]) : C Try.prog 7 #[v] h fun v h' => v = .bool true ∧ Part h h' := by
  obtain ⟨a, n, c, l, rfl, hnc, hcm, hl, hb, hr⟩ := okc_ints (e := 5) (k := .u8) (by kernel_rfl) (by kernel_rfl) (by kernel_rfl) hv
  apply gabionlaw23_DescLeast.ok
  refine desc_New.c (nc := 1) (by omega) (by omega) fun t F1 h1 w1 s1 => ⟨_, _, rfl, gabionlaw23_wakes.c fun h2 p2 => ⟨_, rfl, xsIf_f rfl (xsIf_f rfl (xsIf_f rfl ?_))⟩⟩
  apply gabionlaw23_DescLeast.J4.ok
  unfold gabionlaw23_DescLeast.J4.wp
  have hm : imin (n : Int) 60 = ((min n 60 : Nat) : Int) := by rw [imin_eq]; omega
  rw [hm, slBase_zero]
  refine ⟨by omega, ?_⟩
  have e1 : (((min n 60 : Nat) : Int) - 0).toNat = min n 60 := by omega
  rw [e1]
  have s2 : Step (fun _ => False) h F1 h2 := s1.trans (Step.of_part p2)
  have w2 : Tabs F1 h2 t 1 (fun _ _ => none) := w1.keep fun k _ hk => part_live p2 hk
  have loop : ∀ (j i : Nat) (F : Nat → Prop) (h' : Heap) (M : Nat → Nat → Option Op4), i + j = min n 60 → Tabs F h' t 1 M → Step (fun _ => False) h F h' →
      gabionlaw23_DescLeast.L6 (some ⟨t, 0, none⟩) a (min n 60) ((c : Int) - 0).toNat ((min n 60 : Nat) : Int) i (hadOf M) h' fun v h' => v = .bool true ∧ Part h h' := by
    intro j
    induction j with
    | zero =>
      intro i F h' M hi w s
      apply gabionlaw23_DescLeast.L6.ok
      exact xsIf_f (by simp; omega) ⟨rfl, s.part (Part.refl h) (no_one h)⟩
    | succ j ih =>
      intro i F h' M hi w s
      have hp : Part h h' := s.part (Part.refl h) (no_one h)
      have hlt : i < l.length := by omega
      have hg : l[i]? = some l[i] := List.getElem?_eq_getElem hlt
      obtain ⟨x, hx, hx'⟩ := u8_nat_of (hb l[i] (List.getElem_mem hlt))
      apply gabionlaw23_DescLeast.L6.ok
      refine xsIf_t (by simp; omega) ⟨by omega, reads_ints (i := i) (readsAt_part hr hp) hlt fun b o hc => ⟨x, by rw [Int.toNat_natCast, hc i _ hg, hx], ?_⟩⟩
      rw [i64_in ((i : Int) + 1) (by omega), show (3 : Int) = ((3 : Nat) : Int) from rfl, irem_nat, iquo_u8 3 hx', i64_in ((x / 3 : Nat) : Int) (by omega), show (16 : Int) = ((16 : Nat) : Int) from rfl, irem_nat]
      have hf16 : x / 3 % 16 < 16 := Nat.mod_lt _ (by omega)
      generalize x / 3 % 16 = fd at hf16
      have hlen : (hadOf M).length = 16 := by simp [hadOf]
      refine xsIf_intro (fun _ => ?_) (fun _ => ?_)
      · -- Close
        have hrest : ∀ (code : Int) F' h'' M', (decide (code = 0) = (M 0 fd).isSome) → hadOf M' = (hadOf M).set fd (.bool false) → Tabs F' h'' t 1 M' → Step F h' F' h'' →
            ((0 ≤ (fd : Int) ∧ (fd : Int) < ((16 : Nat) : Int)) ∧ ∃ x3 : Bool, lget (hadOf M) (0 + (fd : Int).toNat * 1) = some (.bool x3) ∧ xsIf (!x3 == decide (code = 0)) ((Value.bool false) = .bool true ∧ Part h h'')
              ((0 ≤ (fd : Int) ∧ (fd : Int) < ((16 : Nat) : Int)) ∧ 0 + (fd : Int).toNat * 1 + 1 ≤ (hadOf M).length ∧
                gabionlaw23_DescLeast.L6 (some ⟨t, 0, none⟩) a (min n 60) ((c : Int) - 0).toNat ((min n 60 : Nat) : Int) ((i : Int) + 1) (lput (hadOf M) (0 + (fd : Int).toNat * 1) [.bool false]) h'' fun v h' => v = .bool true ∧ Part h h')) := by
          intro code F' h'' M' hcode hset w' s'
          refine ⟨by omega, (M 0 fd).isSome, by unfold lget; rw [Int.toNat_natCast, Nat.zero_add, Nat.mul_one]; exact hadOf_get hf16, xsIf_f (by rw [hcode]; cases (M 0 fd).isSome <;> rfl) ⟨by omega, by rw [hlen, Int.toNat_natCast]; omega, ?_⟩⟩
          have e2 : lput (hadOf M) (0 + (fd : Int).toNat * 1) [.bool false] = hadOf M' := by
            unfold lput
            rw [Int.toNat_natCast, Nat.zero_add, Nat.mul_one, setL_one, hset]
          rw [e2]
          exact ih (i + 1) F' h'' M' (by omega) w' (s.trans s')
        have htg : (tget 1 M 0 (fd : Int)).1 = M 0 fd := by
          unfold tget
          rw [if_pos (by omega), if_pos (by omega), Int.toNat_natCast]
          show (match M 0 fd with | some e => (some e, (0 : Int)) | none => (none, 19)).1 = M 0 fd
          cases M 0 fd <;> rfl
        refine desc_Tables_Close.c w (fun hbad => ⟨_, _, rfl, ?_⟩) (fun e h'' he w' s' => ⟨_, _, rfl, ?_⟩)
        · have hn : M 0 fd = none := by rw [← htg]; exact hbad
          refine hrest _ F h' M ?_ ?_ w (Step.refl _ _)
          · rw [hn]; rcases tget_none hbad with h1 | h1 <;> rw [h1] <;> rfl
          · have := hadOf_set (M := M) (v := none) hf16
            rw [show (Value.bool (none : Option Op4).isSome) = .bool false from rfl] at this
            rw [this]
            unfold hadOf
            apply List.map_congr_left
            intro q hq
            by_cases e : q = fd
            · subst e; rw [setM_same, hn]
            · rw [setM_other (fun h => e h.2)]
        · have hn : M 0 fd = some e := by rw [← htg]; exact he
          rw [Int.toNat_natCast] at w'
          refine hrest 0 F h'' (setM M 0 fd none) (by rw [hn]; rfl) ?_ w' s'
          rw [← hadOf_set (v := none) hf16]; rfl
      · -- Add
        have l15 : ∀ (j want : Nat), want + j = 16 → (∀ q, q < want → M 0 q ≠ none) → gabionlaw23_DescLeast.L15 (some ⟨t, 0, none⟩) want a (min n 60) ((c : Int) - 0).toNat ((min n 60 : Nat) : Int) i (hadOf M) h' fun v h' => v = .bool true ∧ Part h h' := by
          intro j
          induction j with
          | zero =>
            intro want hw hall
            obtain rfl : want = 16 := by omega
            apply gabionlaw23_DescLeast.L15.ok
            refine xsIf_f (by simp) ?_
            apply gabionlaw23_DescLeast.J17.ok
            unfold gabionlaw23_DescLeast.J17.wp
            rw [i64_in ((i : Int) + 1) (by omega)]
            refine desc_Tables_Add.c (c := 0) w (by omega) (by omega) (fun _ => ⟨_, _, rfl, xsIf_t rfl (xsIf_f rfl (ih (i + 1) F h' M (by omega) w s))⟩) (fun fd b F' h'' hf _ hn => absurd hn (hall fd hf))
          | succ j ih2 =>
            intro want hw hall
            apply gabionlaw23_DescLeast.L15.ok
            refine xsIf_t (by simp; omega) ⟨by omega, (M 0 want).isSome, by unfold lget; rw [Int.toNat_natCast, Nat.zero_add, Nat.mul_one]; exact hadOf_get (by omega), ?_⟩
            cases hm : M 0 want with
            | some e =>
              refine xsIf_t rfl ?_
              apply gabionlaw23_DescLeast.J16.ok
              unfold gabionlaw23_DescLeast.J16.wp
              rw [i64_in _ (by omega)]
              refine ih2 (want + 1) (by omega) fun q hq => ?_
              by_cases e2 : q = want
              · rw [e2, hm]; simp
              · exact hall q (by omega)
            | none =>
              refine xsIf_f rfl ?_
              apply gabionlaw23_DescLeast.J17.ok
              unfold gabionlaw23_DescLeast.J17.wp
              rw [i64_in ((i : Int) + 1) (by omega)]
              refine desc_Tables_Add.c (c := 0) w (by omega) (by omega) (fun hfull => absurd hm (hfull want (by omega))) (fun fd b F' h'' hf hl2 hn w' s' => ⟨_, _, rfl, ?_⟩)
              obtain rfl : fd = want := least_eq hl2 hn hall hm
              refine xsIf_f (by simp; omega) (xsIf_f rfl (xsIf_f (by simp) ⟨by omega, by rw [hlen, Int.toNat_natCast]; omega, ?_⟩))
              have e2 : lput (hadOf M) (0 + (fd : Int).toNat * 1) [.bool true] = hadOf (setM M 0 fd (some (b, 1, 1, 0))) := by
                unfold lput
                rw [Int.toNat_natCast, Nat.zero_add, Nat.mul_one, setL_one, ← hadOf_set hf]; rfl
              rw [e2]
              exact ih (i + 1) F' h'' _ (by omega) w' (s.trans s')
        exact l15 16 0 (by omega) (fun q hq => absurd hq (Nat.not_lt_zero q))
  exact loop (min n 60) 0 F1 h2 _ (by omega) w2 s2

/-! ### one client is nothing to another one -/

theorem openN_close {M : Nat → Nat → Option Op4} {c fd : Nat} (hn : M c fd ≠ none) : ∀ k, fd < k → (openN (setM M c fd none) c k).length + 1 = (openN M c k).length := by
  have before : ∀ k, k ≤ fd → openN (setM M c fd none) c k = openN M c k := by
    intro k
    induction k with
    | zero => intro _; rfl
    | succ k ih => intro hk; rw [openN_succ, openN_succ, ih (by omega), setM_other (by omega)]
  intro k
  induction k with
  | zero => intro h; omega
  | succ k ih =>
    intro hk
    rw [openN_succ, openN_succ, List.length_append, List.length_append]
    by_cases e : fd = k
    · subst e
      rw [before fd (Nat.le_refl _), setM_same]
      obtain ⟨x, hx⟩ := Option.ne_none_iff_exists'.1 hn
      rw [hx]; simp
    · rw [setM_other (by omega)]
      have := ih (by omega)
      omega

theorem openN_first {M : Nat → Nat → Option Op4} {c i : Nat} (hM : ∀ fd, fd < 16 → ((M c fd).isSome = true ↔ fd < i)) : ∀ k, k ≤ 16 → (openN M c k).length = min i k := by
  intro k
  induction k with
  | zero => intro _; simp [openN]
  | succ k ih =>
    intro hk
    rw [openN_succ, List.length_append, ih (by omega)]
    have := hM k (by omega)
    by_cases e : k < i
    · rw [if_pos (this.2 e)]; simp; omega
    · rw [if_neg (fun h => e (this.1 h))]; simp; omega

theorem gabionlaw23_DescApart.law (n : Int) (hn : IntKind.u8.min ≤ n ∧ n ≤ IntKind.u8.max) (v : Value) (h : Heap) (hv : Okc Try.prog h 8 36 [v]) : C Try.prog 8 #[.int .u8 n, v] h fun v h' => v = .bool true ∧ Part h h' := by
  obtain ⟨a, nn, c, l, rfl, hnc, hcm, hl, hb, hr⟩ := okc_ints (e := 5) (k := .u8) (by kernel_rfl) (by kernel_rfl) (by kernel_rfl) hv
  obtain ⟨n, rfl, hn'⟩ := u8_nat_of hn
  apply gabionlaw23_DescApart.ok
  refine desc_New.c (nc := 2) (by omega) (by omega) fun t F1 h1 w1 s1 => ⟨_, _, rfl, gabionlaw23_wakes.c fun h2 p2 => ⟨_, rfl, xsIf_f rfl (xsIf_f rfl (xsIf_f rfl ?_))⟩⟩
  have s2 : Step (fun _ => False) h F1 h2 := s1.trans (Step.of_part p2)
  have w2 : Tabs F1 h2 t 2 (fun _ _ => none) := w1.keep fun k _ hk => part_live p2 hk
  apply gabionlaw23_DescApart.J4.ok
  unfold gabionlaw23_DescApart.J4.wp
  have h20 : n % 20 < 20 := Nat.mod_lt _ (by omega)
  rw [show (20 : Int) = ((20 : Nat) : Int) from rfl, irem_nat, i64_in ((n % 20 : Nat) : Int) (by omega)]
  generalize n % 20 = k at h20
  -- what comes behind the closing
  have fin : ∀ (F : Nat → Prop) (h' : Heap) (M : Nat → Nat → Option Op4), Tabs F h' t 2 M → Step (fun _ => False) h F h' → (∃ b f p, M 1 0 = some (b, 100, f, p)) → (∀ fd, fd < 16 → 0 < fd → M 1 fd = none) →
      gabionlaw23_DescApart.J22 (some ⟨t, 0, none⟩) ((openN M 0 16).length : Nat) h' fun v h' => v = .bool true ∧ Part h h' := by
    intro F h' M w s ⟨b, f, p, h10⟩ h11
    apply gabionlaw23_DescApart.J22.ok
    have htg : tget 2 M 1 0 = (some (b, 100, f, p), 0) := by
      unfold tget
      rw [if_pos (by omega), if_pos (by omega)]
      show (match M 1 0 with | some e => (some e, (0 : Int)) | none => (none, 19)) = _
      rw [h10]
    refine desc_Tables_Get.c w ?_
    rw [htg]
    refine ⟨_, _, _, _, rfl, xsIf_t rfl (xsIf_t rfl (desc_Tables_List.c (c := 1) w (by omega) fun a1 k1 h3 w3 => ⟨_, _, _, rfl, ?_⟩))⟩
    have hlen1 : (openN M 1 16).length = 1 := by
      rw [openN_first (i := 1) (fun fd hfd => ?_) 16 (by omega)]
      · omega
      · by_cases e : fd = 0
        · subst e; rw [h10]; simp
        · rw [h11 fd hfd (by omega)]; simp; omega
    rw [hlen1]
    refine xsIf_t rfl ?_
    have w4 : Tabs F h3 t 2 M := w.keep fun k _ hk => part_live w3.part hk
    refine desc_Tables_List.c (c := 0) w4 (by omega) fun a2 k2 h4 w5 => ⟨_, _, _, rfl, by simp, ?_⟩
    exact (s.part (Part.refl h) (no_one h)).trans (w3.part.trans w5.part)
  -- the closing
  have l16 : ∀ (j i : Nat) (F : Nat → Prop) (h' : Heap) (M : Nat → Nat → Option Op4), i + j = min nn 30 → Tabs F h' t 2 M → Step (fun _ => False) h F h' → (∃ b f p, M 1 0 = some (b, 100, f, p)) → (∀ fd, fd < 16 → 0 < fd → M 1 fd = none) →
      gabionlaw23_DescApart.L16 (some ⟨t, 0, none⟩) ((openN M 0 16).length : Nat) a (min nn 30) ((c : Int) - 0).toNat ((min nn 30 : Nat) : Int) i h' fun v h' => v = .bool true ∧ Part h h' := by
    intro j
    induction j with
    | zero =>
      intro i F h' M hi w s h10 h11
      apply gabionlaw23_DescApart.L16.ok
      exact xsIf_f (by simp; omega) (fin F h' M w s h10 h11)
    | succ j ih =>
      intro i F h' M hi w s h10 h11
      have hp : Part h h' := s.part (Part.refl h) (no_one h)
      have hlt : i < l.length := by omega
      have hg : l[i]? = some l[i] := List.getElem?_eq_getElem hlt
      obtain ⟨x, hx, hx'⟩ := u8_nat_of (hb l[i] (List.getElem_mem hlt))
      apply gabionlaw23_DescApart.L16.ok
      refine xsIf_t (by simp; omega) ⟨by omega, reads_ints (i := i) (readsAt_part hr hp) hlt fun b o hc => ⟨x, by rw [Int.toNat_natCast, hc i _ hg, hx], ?_⟩⟩
      have hx20 : x % 20 < 20 := Nat.mod_lt _ (by omega)
      rw [i64_in ((i : Int) + 1) (by omega), show (20 : Int) = ((20 : Nat) : Int) from rfl, irem_nat, i64_in ((x % 20 : Nat) : Int) (by omega)]
      refine desc_Tables_Close.c w (fun hbad => ⟨_, _, rfl, xsIf_f (by rcases tget_none hbad with h1 | h1 <;> rw [h1] <;> rfl) (ih (i + 1) F h' M (by omega) w s h10 h11)⟩) (fun e h'' he w' s' => ⟨_, _, rfl, xsIf_t rfl ?_⟩)
      obtain ⟨_, _, _, _, hf16, hm⟩ := tget_some he
      have e0 : Int.toNat 0 = 0 := rfl
      rw [e0, Int.toNat_natCast] at w' hm
      have hcl := openN_close (M := M) (c := 0) (fd := x % 20) (by rw [hm]; simp) 16 (by omega)
      have hle := openN_length (setM M 0 (x % 20) none) 0 16
      rw [i64_in _ (by omega), show (((openN M 0 16).length : Nat) : Int) - 1 = (((openN (setM M 0 (x % 20) none) 0 16).length : Nat) : Int) by omega]
      refine ih (i + 1) F h'' _ (by omega) w' (s.trans s') ?_ ?_
      · rw [setM_other (by omega)]; exact h10
      · intro fd h1 h2; rw [setM_other (by omega)]; exact h11 fd h1 h2
  -- the opening
  have l6 : ∀ (j i : Nat) (F : Nat → Prop) (h' : Heap) (M : Nat → Nat → Option Op4), i + j = k → Tabs F h' t 2 M → Step (fun _ => False) h F h' → (∀ fd, fd < 16 → ((M 0 fd).isSome = true ↔ fd < i)) → (∀ fd, M 1 fd = none) →
      gabionlaw23_DescApart.L6 a nn c (some ⟨t, 0, none⟩) k k i h' fun v h' => v = .bool true ∧ Part h h' := by
    intro j
    induction j with
    | zero =>
      intro i F h' M hi w s hM0 hM1
      obtain rfl : i = k := by omega
      apply gabionlaw23_DescApart.L6.ok
      refine xsIf_f (by simp) ?_
      apply gabionlaw23_DescApart.J13.ok
      unfold gabionlaw23_DescApart.J13.wp
      refine desc_Tables_Add.c (c := 1) w (by omega) (by omega) (fun hf => absurd (hM1 0) (hf 0 (by omega))) fun fd b F' h'' _ hl2 hn2 w' s' => ⟨_, _, rfl, ?_⟩
      obtain rfl : fd = 0 := least_eq hl2 hn2 (fun j hj => absurd hj (Nat.not_lt_zero j)) (hM1 0)
      have hm : imin (nn : Int) 30 = ((min nn 30 : Nat) : Int) := by rw [imin_eq]; omega
      have hm2 : imin (i : Int) 16 = ((min i 16 : Nat) : Int) := by rw [imin_eq]; omega
      rw [hm, hm2, slBase_zero]
      refine ⟨by omega, ?_⟩
      have e1 : (((min nn 30 : Nat) : Int) - 0).toNat = min nn 30 := by omega
      rw [e1]
      have hlen : (openN (setM M 1 0 (some (b, 100, 2, 0))) 0 16).length = min i 16 := openN_first (fun fd hfd => by rw [setM_other (by omega)]; exact hM0 fd hfd) 16 (by omega)
      rw [← hlen]
      refine l16 (min nn 30) 0 F' h'' _ (by omega) w' (s.trans s') ⟨b, 2, 0, setM_same _ _ _ _⟩ fun fd _ h0 => ?_
      rw [setM_other (by omega)]; exact hM1 fd
    | succ j ih =>
      intro i F h' M hi w s hM0 hM1
      apply gabionlaw23_DescApart.L6.ok
      unfold gabionlaw23_DescApart.L6.wp
      rw [i64_in ((100 : Int) + i) (by omega), i64_in ((i : Int) + 1) (by omega)]
      refine xsIf_t (by simp; omega) ?_
      by_cases h16 : i < 16
      · refine desc_Tables_Add.c (c := 0) w (by omega) (by omega) (fun hf => ?_) fun fd b F' h'' hfd hl2 hn2 w' s' => ⟨_, _, rfl, ?_⟩
        · have h1 := hf i h16
          obtain ⟨x, hx⟩ := Option.ne_none_iff_exists'.1 h1
          have := (hM0 i h16).1 (by rw [hx]; rfl)
          omega
        · obtain rfl : fd = i := least_eq hl2 hn2 (fun q hq => by
            have := (hM0 q (by omega)).2 hq
            intro e; rw [e] at this; cases this) (by
            cases hx : M 0 i with
            | none => rfl
            | some x => have := (hM0 i h16).1 (by rw [hx]; rfl); omega)
          have hd : decide ((fd : Int) < 16) = true := by simp; omega
          rw [hd]
          refine xsIf_f rfl (xsIf_t rfl (xsIf_f (by simp) (xsIf_f rfl (ih (fd + 1) F' h'' _ (by omega) w' (s.trans s') (fun q hq => ?_) (fun q => ?_)))))
          · by_cases e : q = fd
            · subst e; rw [setM_same]; simp
            · rw [setM_other (by omega), hM0 q hq]; omega
          · rw [setM_other (by omega)]; exact hM1 q
      · have hd : decide ((i : Int) < 16) = false := by simp; omega
        rw [hd]
        refine desc_Tables_Add.c (c := 0) w (by omega) (by omega) (fun hf => ⟨_, _, rfl, xsIf_f rfl (xsIf_f rfl (xsIf_t rfl (xsIf_f rfl (ih (i + 1) F h' M (by omega) w s (fun q hq => by rw [hM0 q hq]; omega) hM1))))⟩) fun fd b F' h'' hfd hl2 hn2 w' s' => ?_
        have := (hM0 fd hfd).2 (by omega)
        rw [hn2] at this; cases this
  exact l6 k 0 F1 h2 _ (by omega) w2 s2 (fun fd _ => by simp) (fun _ => rfl)

end Go.Gb
