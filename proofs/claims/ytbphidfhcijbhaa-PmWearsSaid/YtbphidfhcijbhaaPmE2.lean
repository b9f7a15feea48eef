/- Own text for the seat: PmE2. -/
import Derived.Test.YtbphidfhcijbhaaPmE1
import Derived.Test.YtbphidfhcijbhaaHp
set_option linter.unusedVariables false
set_option linter.unusedSimpArgs false
set_option linter.unnecessarySimpa false
set_option linter.deprecated false
namespace Go.Gb
open Go.Proofs IntWalk

section
variable {F : Nat → Prop} {h0 : Heap} {d : Nat} {a : Option Addr} {cp : Nat} {Q : Value → Heap → Prop} {l : List Int}

theorem gabionlaw03_PmWears.L7.c (hl : ∀ x, x ∈ l → 0 ≤ x ∧ x ≤ 255) (hr : readsAt h0 a (ints .u8 l)) (fr : ∀ k, h0 k ≠ none → ¬ F k) {N : Nat} (hN : N ≤ l.length) (hN2 : N ≤ 80)
    (hq : ∀ h', Part h0 h' → Q (.bool true) h') : ∀ (j k : Nat) (h : Heap) (s : PmS) (f : Nat → Int) (g : Nat → Nat), k + j = N → PmD F h d s → Live F h → Part h0 h → Wi s k f g →
      gabionlaw03_PmWears.L7 (some ⟨d, 0, none⟩) a N cp (N : Int) (k : Int) (rowI 3 f) (row8 g) h Q := by
  intro j
  induction j with
  | zero =>
    intro k h s f g hk w lv p wi
    apply gabionlaw03_PmWears.L7.ok
    refine xsIf_f (decide_eq_false (by omega)) ⟨f 0, rfl, pm_Device_Wear.c w ⟨_, rfl, ?_⟩⟩
    have e0 := wi.wear 0 (by omega)
    have e1 := wi.wear 1 (by omega)
    have e2 := wi.wear 2 (by omega)
    have nl := wi.nl
    rw [if_pos ⟨by omega, by omega⟩]
    refine xsIf_t (decide_eq_true e0) ⟨f 1, rfl, pm_Device_Wear.c w ⟨_, rfl, ?_⟩⟩
    rw [if_pos ⟨by omega, by omega⟩]
    refine xsIf_t (decide_eq_true e1) ⟨f 2, rfl, pm_Device_Wear.c w ⟨_, rfl, ?_⟩⟩
    rw [if_pos ⟨by omega, by omega⟩, decide_eq_true (show s.wear (Int.toNat 2) = f 2 from e2)]
    exact hq h p
  | succ j ih =>
    intro k h s f g hk w lv p wi
    apply gabionlaw03_PmWears.L7.ok
    unfold gabionlaw03_PmWears.L7.wp
    refine xsIf_t (decide_eq_true (by omega)) ⟨by omega, reads_ints (readsAt_part hr p) (i := k) (by omega) fun b o hc => ?_⟩
    obtain ⟨x, hx⟩ : ∃ x, l[k]? = some x := ⟨l[k], List.getElem?_eq_getElem (by omega)⟩
    refine ⟨x, by have := hc k x hx; simpa using this, ?_⟩
    have hx2 := hl x (List.mem_of_getElem? hx)
    obtain ⟨x, rfl⟩ : ∃ y : Nat, x = y := ⟨x.toNat, by omega⟩
    have eq : irem (iquo .u8 (x : Int) 24) 6 = ((x / 24 % 6 : Nat) : Int) := by
      rw [show iquo .u8 (x : Int) 24 = ((x / 24 : Nat) : Int) from iquo8 (a := x) 24 (by omega)]; exact irem_nat _ 6
    have ew : irem (IntKind.i64.wrap (x : Int)) 24 = ((x % 24 : Nat) : Int) := by
      rw [i64_in _ (by omega)]; exact irem_nat _ 24
    have e24 : x % 24 < 24 := Nat.mod_lt _ (by omega)
    have nl := wi.nl
    have go : ∀ (h' : Heap) (s' : PmS) (f' : Nat → Int) (g' : Nat → Nat), PmD F h' d s' → Step F h F h' → Wi s' (k + 1) f' g' → gabionlaw03_PmWears.J37 (some ⟨d, 0, none⟩) a N cp (N : Int) (k : Int) (rowI 3 f') (row8 g') h' Q := by
      intro h' s' f' g' w' st wi'
      apply gabionlaw03_PmWears.J37.ok
      unfold gabionlaw03_PmWears.J37.wp
      rw [show IntKind.i64.wrap ((k : Int) + 1) = ((k + 1 : Nat) : Int) by rw [i64_in _ (by omega)]; omega]
      exact ih (k + 1) h' s' f' g' (by omega) w' (st.dom lv) (st.part p fr) wi'
    have fu : s.fuse ≠ 1 := by rw [wi.fuse]; decide
    have store : gabionlaw03_PmWears.J27 (some ⟨d, 0, none⟩) (x : Int) ((x % 24 : Nat) : Int) a N cp (N : Int) (k : Int) (rowI 3 f) (row8 g) h Q := by
      apply gabionlaw03_PmWears.J27.ok
      refine pm_Device_Store.c w fun h2 w2 st2 => ⟨_, rfl, by omega, by simp; omega, ?_⟩
      rw [pstore_run wi.off fu (by omega) (by omega)] at w2
      have et : (0 + ((x % 24 : Nat) : Int).toNat * 1) = x % 24 := by omega
      have : lput (row8 g) (x % 24) [Value.int .u8 1] = row8 (fset g (x % 24) 1) := row_set (n := 24) (fun x : Nat => Value.int .u8 (x : Int)) g 1
      rw [et, this]
      have w3 := wi.store (x % 24) (IntKind.u64.wrap (x : Int))
      rw [Int.toNat_natCast] at w2
      exact go h2 _ _ _ w2 st2 w3
    have flush : gabionlaw03_PmWears.J31 (some ⟨d, 0, none⟩) ((x % 24 : Nat) : Int) a N cp (N : Int) (k : Int) (rowI 3 f) (row8 g) h Q := by
      apply gabionlaw03_PmWears.J31.ok
      unfold gabionlaw03_PmWears.J31.wp
      have el : iquo .i64 ((x % 24 : Nat) : Int) 8 = ((x % 24 / 8 : Nat) : Int) := by rw [iquo_i64 (by omega) (by omega) (by omega)]; omega
      rw [el, show IntKind.i64.wrap (((x % 24 / 8 : Nat) : Int) * 8) = ((8 * (x % 24 / 8) + 0 : Nat) : Int) by rw [i64_in _ (by omega)]; omega]
      refine pm_Device_Flush.c w fun h2 w2 st2 => ⟨_, rfl, ?_⟩
      rw [pflush_run wi.off fu (by omega) (by omega), Int.toNat_natCast] at w2
      have := gabionlaw03_PmWears.L33.c (d := d) (a := a) (n := N) (cp := cp) (Q := Q) (f := rowI 3 f) (m := (N : Int)) (t := (k : Int)) (h := h2) (g := g) (L := x % 24 / 8) (w := x % 24) (by omega) rfl (fun q hq => by rw [wi.g q hq]; exact bst_le _)
        (go h2 _ _ _ w2 st2 (wi.flush (x % 24 / 8))) 8 0 (by omega)
      rw [show row8 (fl g (x % 24 / 8) 0) = row8 g from List.map_congr_left fun q _ => by congr 2; unfold fl; exact if_neg (by omega)] at this
      exact this
    have fence : C Try.prog 16 #[.pointer (some ⟨d, 0, none⟩)] h fun (r : Value) (h' : Heap) => ∃ (x : Int), r = .int .i64 x ∧ gabionlaw03_PmWears.L13 (some ⟨d, 0, none⟩) a N cp (N : Int) (k : Int) 0 (rowI 3 f) (row8 g) h' Q := by
      refine pm_Device_Fence.c w lv fun h2 w2 st2 => ⟨_, rfl, ?_⟩
      rw [pfence_run wi.off fu] at w2
      have := gabionlaw03_PmWears.L13.c (d := d) (a := a) (n := N) (cp := cp) (Q := Q) (f := f) (m := (N : Int)) (t := (k : Int)) (h := h2) (g := g) (fun i hi => by have := wi.f0 i hi; omega) (go h2 _ _ _ w2 st2 (wi.fence (by omega))) 3 0 (by omega)
      rw [show row8 (zr g (8 * 0)) = row8 g from List.map_congr_left fun q _ => by congr 2,
        show rowI 3 (fW f g 0) = rowI 3 f from List.map_congr_left fun q _ => by congr 1] at this
      exact this
    rw [eq, ew]
    have e6 : x / 24 % 6 < 6 := Nat.mod_lt _ (by omega)
    generalize x / 24 % 6 = q at e6
    repeat' (first | exact store | exact flush | exact fence | (refine xsIf_intro (fun _ => ?_) (fun _ => ?_)))

set_option maxRecDepth 100000 in
theorem gabionlaw03_PmWears.law (v : Value) (h : Heap) (hv : Okc Try.prog h 8 42 [v]) : C Try.prog 4 #[v] h fun v h' => v = .bool true ∧ Part h h' := by
  obtain ⟨a, n, c, l, rfl, hnc, hcm, hl, hb, hr⟩ := okc_ints (e := 5) (k := .u8) (by kernel_rfl) (by kernel_rfl) (by kernel_rfl) hv
  apply gabionlaw03_PmWears.ok
  refine pm_New.c (n := 3) (by omega) (by omega) fun d F h1 p1 fr lv hp => ⟨_, _, rfl, gabionlaw03_wakes.c fun h2 hp2 => ⟨_, rfl, xsIf_f rfl (xsIf_f (by decide) (xsIf_f rfl ?_))⟩⟩
  have p2 : PmD F h2 d (pnew 3) := p1.keep fun k _ hk => part_live hp2 hk
  have st2 : Step F h1 F h2 := Step.of_part hp2
  apply gabionlaw03_PmWears.J4.ok
  unfold gabionlaw03_PmWears.J4.wp
  have hmn : imin (n : Int) 80 = ((min n 80 : Nat) : Int) := by rw [imin_eq]; omega
  rw [hmn, slBase0]
  refine ⟨by omega, ?_⟩
  have e1 : (((min n 80 : Nat) : Int) - 0).toNat = min n 80 := by omega
  rw [e1]
  have := gabionlaw03_PmWears.L7.c (F := F) (h0 := h) (d := d) (a := a) (cp := ((c : Int) - 0).toNat) (Q := fun v h' => v = .bool true ∧ Part h h') (l := l) hb hr (fun k hk hf => hk (fr k hf)) (N := min n 80) (by omega) (by omega) (fun h' p => ⟨rfl, p⟩)
    (min n 80) 0 h2 (pnew 3) (fun _ => 0) (fun _ => 0) (by omega) p2 (st2.dom lv) (hp.trans hp2) ⟨rfl, rfl, rfl, fun i _ => rfl, fun i _ => by omega, fun w _ => rfl⟩
  exact this
end
end Go.Gb
