/- Own text for the seat: Ln5. -/
import Derived.Test.YtbphidfhcijbhaaLn4
import Derived.Test.YtbphidfhcijbhaaHp
set_option linter.unusedVariables false
set_option linter.unusedSimpArgs false
set_option linter.unnecessarySimpa false
set_option linter.deprecated false
namespace Go.Gb
open Go.Proofs IntWalk

/-! ## Mixed; LineMixes -/

def mixP (was is0 got : ByteArray) : Prop := was.size = 64 ∧ is0.size = 64 ∧ got.size = 64 ∧ ∀ k, k < 8 → wordAt got k = wordAt was k ∨ wordAt got k = wordAt is0 k

theorem sext_chunk (s : ByteArray) (k : Nat) : sext s ((8 * k : Nat) : Int) ((8 * k + 8 : Nat) : Int) = ⟨(chunk s.data.toList k).toArray⟩ := by
  unfold sext chunk
  apply ByteArray.ext
  rw [Int.toNat_natCast, Int.toNat_natCast, ByteArray.data_extract]
  apply Array.ext'
  rw [Array.toList_extract, List.extract_eq_take_drop, show 8 * k + 8 - 8 * k = 8 by omega]
theorem sext_word {s : ByteArray} {k : Nat} (hs : s.size = 64) (hk : k < 8) : sext s ((8 * k : Nat) : Int) ((8 * k + 8 : Nat) : Int) = ⟨(putL (wordAt s k) 8).toArray⟩ := by
  rw [sext_chunk, put_word s hs k hk]
theorem sext_eq {x y : ByteArray} {k : Nat} (hx : x.size = 64) (hy : y.size = 64) (hk : k < 8) : sext x ((8 * k : Nat) : Int) ((8 * k + 8 : Nat) : Int) = sext y ((8 * k : Nat) : Int) ((8 * k + 8 : Nat) : Int) ↔ wordAt x k = wordAt y k := by
  constructor
  · intro h
    rw [sext_chunk, sext_chunk] at h
    have h2 : (chunk x.data.toList k) = (chunk y.data.toList k) := by
      have := congrArg (fun b : ByteArray => b.data.toList) h
      simpa using this
    unfold wordAt; rw [h2]
  · intro h
    rw [sext_word hx hk, sext_word hy hk, h]

section
variable {h : Heap} {Q : Value → Heap → Prop} {was is0 got : ByteArray}

theorem line_Mixed.c (hy : mixP was is0 got → Q (.bool true) h) (hn : ¬ mixP was is0 got → Q (.bool false) h) : C Try.prog 36 #[.string was, .string is0, .string got] h Q := by
  apply line_Mixed.ok
  refine le_Words.c2 fun fa hfa => ⟨_, _, _, _, _, _, _, _, _, rfl, Nat.le_refl 8, le_Words.c2 fun fb hfb => ⟨_, _, _, _, _, _, _, _, _, rfl, Nat.le_refl 8, le_Words.c2 fun fc hfc => ⟨_, _, _, _, _, _, _, _, _, rfl, ?_⟩⟩⟩
  by_cases h1 : was.size = 64
  · by_cases h2 : is0.size = 64
    · by_cases h3 : got.size = 64
      · rw [if_pos h1, if_pos h2, if_pos h3]
        refine xsIf_f (by decide) (xsIf_f (by decide) (xsIf_f (by decide) ?_))
        have z : ∀ (f : Nat → Int), lput [Value.int .u64 0, .int .u64 0, .int .u64 0, .int .u64 0, .int .u64 0, .int .u64 0, .int .u64 0, .int .u64 0] 0 [Value.int .u64 (f 0), .int .u64 (f 1), .int .u64 (f 2), .int .u64 (f 3), .int .u64 (f 4), .int .u64 (f 5), .int .u64 (f 6), .int .u64 (f 7)] = [Value.int .u64 (f 0), .int .u64 (f 1), .int .u64 (f 2), .int .u64 (f 3), .int .u64 (f 4), .int .u64 (f 5), .int .u64 (f 6), .int .u64 (f 7)] := fun f => rfl
        rw [z fa, z fb, hfa h1, hfb h2, hfc h3]
        apply line_Mixed.J6.ok
        unfold line_Mixed.J6.wp
        have g2 : ∀ (f : Nat → Int) (k : Nat), k < 8 → lget [Value.int .u64 (f 0), .int .u64 (f 1), .int .u64 (f 2), .int .u64 (f 3), .int .u64 (f 4), .int .u64 (f 5), .int .u64 (f 6), .int .u64 (f 7)] (0 + (k : Int).toNat * 1) = some (.int .u64 (f k)) := fun f k hk => by
          rw [Nat.zero_add]; exact row8_get hk
        have loop : ∀ (j k : Nat), k + j = 8 → (∀ i, i < k → wordAt got i = wordAt was i ∨ wordAt got i = wordAt is0 i) →
            line_Mixed.L7 (wordAt got 0 : Nat) (wordAt got 1 : Nat) (wordAt got 2 : Nat) (wordAt got 3 : Nat) (wordAt got 4 : Nat) (wordAt got 5 : Nat) (wordAt got 6 : Nat) (wordAt got 7 : Nat) (k : Int)
              [.int .u64 (wordAt was 0 : Nat), .int .u64 (wordAt was 1 : Nat), .int .u64 (wordAt was 2 : Nat), .int .u64 (wordAt was 3 : Nat), .int .u64 (wordAt was 4 : Nat), .int .u64 (wordAt was 5 : Nat), .int .u64 (wordAt was 6 : Nat), .int .u64 (wordAt was 7 : Nat)]
              [.int .u64 (wordAt is0 0 : Nat), .int .u64 (wordAt is0 1 : Nat), .int .u64 (wordAt is0 2 : Nat), .int .u64 (wordAt is0 3 : Nat), .int .u64 (wordAt is0 4 : Nat), .int .u64 (wordAt is0 5 : Nat), .int .u64 (wordAt is0 6 : Nat), .int .u64 (wordAt is0 7 : Nat)] h Q := by
          intro j
          induction j with
          | zero =>
            intro k hk hm
            apply line_Mixed.L7.ok
            exact xsIf_f (decide_eq_false (by omega)) (hy ⟨h1, h2, h3, fun k hk => hm k (by omega)⟩)
          | succ j ih =>
            intro k hk hm
            apply line_Mixed.L7.ok
            unfold line_Mixed.L7.wp
            have e2 : IntKind.i64.wrap ((k : Int) + 1) = ((k + 1 : Nat) : Int) := by rw [i64_in _ (by omega)]; omega
            rw [e2]
            have hk8 : k < 8 := by omega
            have nx : (wordAt got k = wordAt was k ∨ wordAt got k = wordAt is0 k) → _ := fun hw => ih (k + 1) (by omega) fun i hi => by
              by_cases e : i = k
              · rw [e]; exact hw
              · exact hm i (by omega)
            refine xsIf_t (decide_eq_true (by omega)) ⟨by omega, _, row8_get (f := fun k => ((wordAt got k : Nat) : Int)) hk8, by omega, _, g2 (fun k => ((wordAt was k : Nat) : Int)) k hk8, xsIf_intro (fun e => ?_) fun e => nx (.inl ?_)⟩
            · refine ⟨by omega, _, g2 (fun k => ((wordAt is0 k : Nat) : Int)) k hk8, xsIf_intro (fun e2 => hn fun m => ?_) fun e2 => nx (.inr ?_)⟩
              · have e := of_decide_eq_true e
                have e2 := of_decide_eq_true e2
                rcases m.2.2.2 k hk8 with h | h
                · exact e (by rw [h])
                · exact e2 (by rw [h])
              · have e2 := of_decide_eq_false e2
                have : ((wordAt got k : Nat) : Int) = ((wordAt is0 k : Nat) : Int) := Decidable.not_not.1 e2
                omega
            · have e := of_decide_eq_false e
              have : ((wordAt got k : Nat) : Int) = ((wordAt was k : Nat) : Int) := Decidable.not_not.1 e
              omega
        exact loop 8 0 (by omega) (fun i hi => by omega)
      · rw [if_pos h1, if_pos h2, if_neg h3]
        exact xsIf_f (by decide) (xsIf_f (by decide) (xsIf_t (by decide) (hn fun m => h3 m.2.2.1)))
    · rw [if_pos h1, if_neg h2]
      exact xsIf_f (by decide) (xsIf_t (by decide) (hn fun m => h2 m.2.1))
  · rw [if_neg h1]
    exact xsIf_t (by decide) (hn fun m => h1 m.1)

theorem gabionref04_Mixed.c (hy : mixP was is0 got → Q (.bool true) h) (hn : ¬ mixP was is0 got → Q (.bool false) h) : C Try.prog 37 #[.string was, .string is0, .string got] h Q := by
  apply gabionref04_Mixed.ok
  refine xsIf_intro (fun e => hn fun m => of_decide_eq_true e (by rw [m.1]; rfl)) fun e1 => xsIf_intro (fun e => hn fun m => of_decide_eq_true e (by rw [m.2.1]; rfl)) fun e2 => xsIf_intro (fun e => hn fun m => of_decide_eq_true e (by rw [m.2.2.1]; rfl)) fun e3 => ?_
  have h1 : was.size = 64 := by have := of_decide_eq_false e1; omega
  have h2 : is0.size = 64 := by have := of_decide_eq_false e2; omega
  have h3 : got.size = 64 := by have := of_decide_eq_false e3; omega
  apply gabionref04_Mixed.J3.ok
  have loop : ∀ (j k : Nat), k + j = 8 → (∀ i, i < k → wordAt got i = wordAt was i ∨ wordAt got i = wordAt is0 i) → gabionref04_Mixed.L4 was is0 got ((8 * k : Nat) : Int) h Q := by
    intro j
    induction j with
    | zero =>
      intro k hk hm
      apply gabionref04_Mixed.L4.ok
      exact xsIf_f (decide_eq_false (by omega)) (hy ⟨h1, h2, h3, fun k hk => hm k (by omega)⟩)
    | succ j ih =>
      intro k hk hm
      apply gabionref04_Mixed.L4.ok
      unfold gabionref04_Mixed.L4.wp
      have e2 : IntKind.i64.wrap (((8 * k : Nat) : Int) + 8) = ((8 * k + 8 : Nat) : Int) := by rw [i64_in _ (by omega)]; omega
      rw [e2]
      have hk8 : k < 8 := by omega
      have nx : (wordAt got k = wordAt was k ∨ wordAt got k = wordAt is0 k) → gabionref04_Mixed.L4 was is0 got ((8 * k + 8 : Nat) : Int) h Q := fun hw => by
        have := ih (k + 1) (by omega) fun i hi => by
          by_cases e : i = k
          · rw [e]; exact hw
          · exact hm i (by omega)
        rw [show 8 * (k + 1) = 8 * k + 8 by omega] at this
        exact this
      refine xsIf_t (decide_eq_true (by omega)) ⟨by omega, by omega, by omega, by omega, xsIf_intro (fun e => ⟨by omega, by omega, by omega, by omega, xsIf_intro (fun e3 => hn fun m => ?_) fun e3 => nx (.inr ?_)⟩) fun e => nx (.inl ?_)⟩
      · have e := of_decide_eq_true e
        have e3 := of_decide_eq_true e3
        rcases m.2.2.2 k hk8 with hh | hh
        · exact e ((sext_eq h3 h1 hk8).2 hh)
        · exact e3 ((sext_eq h3 h2 hk8).2 hh)
      · exact (sext_eq h3 h2 hk8).1 (Decidable.not_not.1 (of_decide_eq_false e3))
      · exact (sext_eq h3 h1 hk8).1 (Decidable.not_not.1 (of_decide_eq_false e))
  exact loop 8 0 (by omega) (fun i hi => by omega)
end

theorem gabionlaw04_LineMixes.law (was : ByteArray) (hwas : was.size ≤ 140737488351232) (is0 : ByteArray) (his : is0.size ≤ 140737488351232) (pick : Int) (hp : IntKind.u8.min ≤ pick ∧ pick ≤ IntKind.u8.max) (h : Heap) :
    C Try.prog 8 #[.string was, .string is0, .int .u8 pick] h fun v h' => v = .bool true ∧ Part h h' := by
  apply gabionlaw04_LineMixes.ok
  refine gabionlaw04_full.c hwas ⟨_, rfl, gabionlaw04_full.c his ⟨_, rfl, ?_⟩⟩
  have za := fullB_size was
  have zb := fullB_size is0
  generalize fullB was = a at za
  generalize fullB is0 = b at zb
  have loop : ∀ (j k : Nat) (f : Nat → Nat), k + j = 8 → (∀ i, i < k → f i = wordAt a i ∨ f i = wordAt b i) →
      gabionlaw04_LineMixes.L4 was is0 pick a b ⟨(textN f k).toArray⟩ (k : Int) h fun v h' => v = .bool true ∧ Part h h' := by
    intro j
    induction j with
    | zero =>
      intro k f hk hf
      apply gabionlaw04_LineMixes.L4.ok
      have : k = 8 := by omega
      subst this
      have zg : (⟨(textN f 8).toArray⟩ : ByteArray).size = 64 := by rw [bytes_size, textN_len]
      refine xsIf_f (decide_eq_false (by omega)) ⟨by omega, ?_, gabionlaw04_full.c (by show 0 ≤ _; omega) ⟨_, rfl, fun bk hbk => ?_⟩⟩
      · have : (sext (⟨(textN f 8).toArray⟩ : ByteArray) 0 63).size ≤ 64 := by unfold sext; rw [ByteArray.size_extract]; omega
        omega
      have mg : mixP a b ⟨(textN f 8).toArray⟩ := ⟨za, zb, zg, fun k hk => by
        have hv : f k < 18446744073709551616 := by
          rcases hf k hk with h | h
          · rw [h]; exact wordAt_lt _ _
          · rw [h]; exact wordAt_lt _ _
        rw [show wordAt (⟨(textN f 8).toArray⟩ : ByteArray) k = f k from wordAt_text hk hv]
        exact hf k hk⟩
      generalize (⟨(textN f 8).toArray⟩ : ByteArray) = got at mg zg
      have hcell : ∀ i, i < 7 → ∃ x, (upd h bk (Obj.cells #[.string got, .string a, .string b, .string is0, .string was, .string (sext got 0 63 ++ ⟨#[UInt8.ofNat 1]⟩), .string (fullB ⟨#[]⟩)] 9 (0, 0))).cell bk (0 + i * 1) = some (.string x) := fun i hi => by
        rw [cell_new]
        match i, hi with
        | 0, _ => exact ⟨_, rfl⟩
        | 1, _ => exact ⟨_, rfl⟩
        | 2, _ => exact ⟨_, rfl⟩
        | 3, _ => exact ⟨_, rfl⟩
        | 4, _ => exact ⟨_, rfl⟩
        | 5, _ => exact ⟨_, rfl⟩
        | 6, _ => exact ⟨_, rfl⟩
      have P2 : Part h (upd h bk (Obj.cells #[.string got, .string a, .string b, .string is0, .string was, .string (sext got 0 63 ++ ⟨#[UInt8.ofNat 1]⟩), .string (fullB ⟨#[]⟩)] 9 (0, 0))) := fun k o hk => by
        rw [upd_ne (fun e => by rw [e, hbk] at hk; cases hk)]; exact hk
      generalize upd h bk (Obj.cells #[.string got, .string a, .string b, .string is0, .string was, .string (sext got 0 63 ++ ⟨#[UInt8.ofNat 1]⟩), .string (fullB ⟨#[]⟩)] 9 (0, 0)) = h2 at hcell P2
      have inner : ∀ (j i : Nat), i + j = 7 → gabionlaw04_LineMixes.L11 was a b got (some ⟨bk, 0, none⟩) 7 7 7 (i : Int) h2 fun v h' => v = .bool true ∧ Part h h' := by
        intro j
        induction j with
        | zero =>
          intro i hi
          apply gabionlaw04_LineMixes.L11.ok
          refine xsIf_f (decide_eq_false (by omega)) (gabionlaw04_wakes.c fun h3 p3 => ⟨_, rfl, xsIf_t rfl (line_Mixed.c (fun _ => ⟨_, rfl, rfl, P2.trans p3⟩) fun hn => absurd mg hn)⟩)
        | succ j ih =>
          intro i hi
          apply gabionlaw04_LineMixes.L11.ok
          obtain ⟨x, hx⟩ := hcell i (by omega)
          have hx' : h2.cell bk (0 + (i : Int).toNat * 1) = some (.string x) := by rw [Int.toNat_natCast]; exact hx
          have nx : gabionlaw04_LineMixes.L11 was a b got (some ⟨bk, 0, none⟩) 7 7 7 (IntKind.i64.wrap ((i : Int) + 1)) h2 fun v h' => v = .bool true ∧ Part h h' := by
            rw [show IntKind.i64.wrap ((i : Int) + 1) = ((i + 1 : Nat) : Int) by rw [i64_in _ (by omega)]; omega]
            exact ih (i + 1) (by omega)
          refine xsIf_t (decide_eq_true (by omega)) ⟨by show 0 ≤ (i : Int) ∧ (i : Int) < 7; omega, bk, 0, rfl, x, hx', ?_⟩
          have snd : C Try.prog 36 #[.string was, .string b, .string x] h2 fun (r : Value) (h' : Heap) => ∃ (x_3 : Bool), r = .bool x_3 ∧ C Try.prog 37 #[.string was, .string b, .string x] h' fun (r : Value) (h' : Heap) =>
              ∃ (x : Bool), r = .bool x ∧ xsIf (!x_3 == x) ((Value.bool false) = .bool true ∧ Part h h') (gabionlaw04_LineMixes.L11 was a b got (some ⟨bk, 0, none⟩) 7 7 7 (IntKind.i64.wrap ((i : Int) + 1)) h' fun v h' => v = .bool true ∧ Part h h') :=
            line_Mixed.c (fun m => ⟨_, rfl, gabionref04_Mixed.c (fun _ => ⟨_, rfl, xsIf_f rfl nx⟩) fun m2 => absurd m m2⟩) fun m => ⟨_, rfl, gabionref04_Mixed.c (fun m2 => absurd m2 m) fun _ => ⟨_, rfl, xsIf_f rfl nx⟩⟩
          exact line_Mixed.c (fun m => ⟨_, rfl, gabionref04_Mixed.c (fun _ => ⟨_, rfl, xsIf_f rfl snd⟩) fun m2 => absurd m m2⟩) fun m => ⟨_, rfl, gabionref04_Mixed.c (fun m2 => absurd m2 m) fun _ => ⟨_, rfl, xsIf_f rfl snd⟩⟩
      exact inner 7 0 (by omega)
    | succ j ih =>
      intro k f hk hf
      apply gabionlaw04_LineMixes.L4.ok
      unfold gabionlaw04_LineMixes.L4.wp
      have hk8 : k < 8 := by omega
      have e1 : IntKind.i64.wrap (8 * (k : Int)) = ((8 * k : Nat) : Int) := by rw [i64_in _ (by omega)]; omega
      have e2 : IntKind.i64.wrap (((8 * k : Nat) : Int) + 8) = ((8 * k + 8 : Nat) : Int) := by rw [i64_in _ (by omega)]; omega
      rw [e1, e2, sext_word za hk8, sext_word zb hk8]
      have nx : ∀ v, (v = wordAt a k ∨ v = wordAt b k) → ((((⟨(textN f k).toArray⟩ : ByteArray).size + (⟨(putL v 8).toArray⟩ : ByteArray).size : Nat) : Int) ≤ 9223372036854775807 ∧
          gabionlaw04_LineMixes.J9 was is0 pick a b (⟨(textN f k).toArray⟩ ++ ⟨(putL v 8).toArray⟩) (k : Int) h fun v h' => v = .bool true ∧ Part h h') := by
        intro v hv
        refine ⟨by rw [bytes_size, bytes_size, textN_len, putL_length]; omega, ?_⟩
        apply gabionlaw04_LineMixes.J9.ok
        unfold gabionlaw04_LineMixes.J9.wp
        rw [show IntKind.i64.wrap ((k : Int) + 1) = ((k + 1 : Nat) : Int) by rw [i64_in _ (by omega)]; omega, bytes_append]
        have : textN f k ++ putL v 8 = textN (fset f k v) (k + 1) := by
          show _ = textN (fset f k v) k ++ putL (fset f k v k) 8
          rw [show fset f k v k = v from if_pos rfl, textN_congr (f := fset f k v) (g := f) k fun i hi => if_neg (by omega)]
        rw [this]
        refine ih (k + 1) (fset f k v) (by omega) fun i hi => ?_
        unfold fset
        by_cases e : i = k
        · rw [if_pos e, e]; exact hv
        · rw [if_neg e]; exact hf i (by omega)
      refine xsIf_t (decide_eq_true (by omega)) ⟨by omega, xsIf_intro (fun _ => ⟨by omega, by omega, nx _ (.inr rfl)⟩) fun _ => ⟨by omega, by omega, nx _ (.inl rfl)⟩⟩
  exact loop 8 0 (fun _ => 0) (by omega) (fun i hi => by omega)
end Go.Gb
