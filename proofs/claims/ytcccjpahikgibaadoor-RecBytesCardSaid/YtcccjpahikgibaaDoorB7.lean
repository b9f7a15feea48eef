/- Own texts for the seat: Rc1 Rc2 Rc4 Rc5 Rc6 Rc7 Rc8 Rc9 RcA RcC Rc3 RcD RcE. -/
import Derived.Test.YtcccjpahikgibaaDoorB6
import Derived.Test.YtcccjpahikgibaaDoorB4
import Derived.Test.YtcccjpahikgibaaDoorA13
import Derived.Test.YtcccjpahikgibaaDoorB2
import Derived.Test.YtcccjpahikgibaaDoorB3
set_option linter.unusedVariables false
set_option linter.unusedSimpArgs false
set_option linter.unnecessarySimpa false
set_option linter.deprecated false
namespace Go.Gb
open Go.Proofs IntWalk

/-! ## marked, plain, sum -/

theorem repeat_zero (c : Nat) : Lib.repeatL [0] c = List.replicate c (0 : UInt8) := by
  induction c with
  | zero => rfl
  | succ c ih => unfold Lib.repeatL; rw [ih]; rfl

theorem u8_add (a b : UInt8) : IntKind.u8.wrap ((a.toNat : Int) + (b.toNat : Int)) = ((a + b).toNat : Int) := by
  rw [UInt8.toNat_add]
  have e : (a.toNat : Int) + (b.toNat : Int) = ((a.toNat + b.toNat : Nat) : Int) := by omega
  rw [e, u8_nat]

theorem marked_L2 {h0 : Heap} {b : Nat} {d : UInt8} {Q : Value → Heap → Prop} : ∀ (n : Nat) (s : List UInt8) (l : List UInt8) (m : UInt8) (h : Heap), s.length ≤ n → l.length + 8 * s.length ≤ 100000 → BdP h0 h b l →
    (∀ h', Part h0 h' → Q (.string (mkB (l ++ mk s m d))) h') → rec_marked.L2 (mkB s) (m.toNat : Int) (d.toNat : Int) b h Q := by
  intro n
  induction n with
  | zero =>
    intro s l m h hs hl w hq
    have : s = [] := List.eq_nil_of_length_eq_zero (by omega)
    subst this
    refine rec_marked.L2.ok (xsIf_f rfl (w.done (by omega) fun h' p => ⟨_, rfl, ?_⟩))
    have := hq h' p
    rw [mk_nil, List.append_nil] at this
    exact this
  | succ n ih =>
    intro s l m h hs hl w hq
    by_cases e : s = []
    · subst e
      refine rec_marked.L2.ok (xsIf_f rfl (w.done (by omega) fun h' p => ⟨_, rfl, ?_⟩))
      have := hq h' p
      rw [mk_nil, List.append_nil] at this
      exact this
    · have hpos : 0 < s.length := List.length_pos_iff.2 e
      have hmin : imin ((mkB s).size : Int) 7 = ((min s.length 7 : Nat) : Int) := by rw [imin_eq, mkB_size]; omega
      rw [mk_cons e] at hq
      refine rec_marked.L2.ok ?_
      unfold rec_marked.L2.wp
      rw [hmin]
      have e7 : IntKind.i64.wrap (7 - ((min s.length 7 : Nat) : Int)) = ((7 - min s.length 7 : Nat) : Int) := by rw [i64_in _ (by omega)]; omega
      rw [e7]
      have ext : ∀ k : Nat, k ≤ s.length → sext (mkB s) 0 (k : Int) = mkB (s.take k) := fun k hk => by
        have := sext_mk (mkB s) (a := 0) (b := k)
        rw [List.drop_zero] at this
        exact this
      have edr : sext (mkB s) ((min s.length 7 : Nat) : Int) ((mkB s).size : Int) = mkB (s.drop 7) := by
        rw [sext_mk, mkB_size]
        show mkB ((s.take s.length).drop _) = _
        rw [List.take_of_length_le (Nat.le_refl _)]
        by_cases h7 : s.length ≤ 7
        · rw [Nat.min_eq_left h7, List.drop_eq_nil_of_le (Nat.le_refl _), List.drop_eq_nil_of_le h7]
        · rw [Nat.min_eq_right (by omega)]
      refine xsIf_t (by rw [mkB_size]; simp; omega) ⟨⟨by omega, by rw [mkB_size]; omega⟩, strings_Repeat.c (by omega) (by decide) ⟨_, rfl, ?_⟩⟩
      rw [ext _ (Nat.min_le_left _ _), edr]
      have er : ({ data := (Lib.repeatL ({ data := #[UInt8.ofNat 0] } : ByteArray).data.toList (7 - min s.length 7)).toArray } : ByteArray) = mkB (List.replicate (7 - min s.length 7) 0) := by
        show mkB (Lib.repeatL [0] _) = _
        rw [repeat_zero]
      rw [er, mkB_append]
      have hw : s.take (min s.length 7) = s.take 7 := by
        by_cases h7 : s.length ≤ 7
        · rw [Nat.min_eq_left h7, List.take_of_length_le (Nat.le_refl _), List.take_of_length_le h7]
        · rw [Nat.min_eq_right (by omega)]
      rw [hw]
      have hsz : (mkB (s.take 7 ++ List.replicate (7 - min s.length 7) 0)).size = 7 := by rw [mkB_size]; simp; omega
      refine ⟨by rw [mkB_size, mkB_size]; simp; omega, w.str (by rw [hsz]; decide) (by rw [hsz]; omega) fun h1 w1 => ⟨_, _, rfl, w1.byte (by simp; omega) fun h2 w2 => ⟨_, rfl, ⟨by omega, by rw [mkB_size]; omega⟩, ?_⟩⟩⟩
      rw [u8_add]
      refine ih (s.drop 7) _ (m + d) h2 (by rw [List.length_drop]; omega) ?_ w2 fun h' p => ?_
      · simp; omega
      · have := hq h' p
        unfold word7 at this
        simpa [List.append_assoc] using this

theorem marked.c {s : List UInt8} {m d : UInt8} {h : Heap} {Q : Value → Heap → Prop} (hs : s.length ≤ 10000) (hq : ∀ h', Part h h' → Q (.string (mkB (mk s m d))) h') :
    C Tryd.prog 38 #[.string (mkB s), .int .u8 (m.toNat : Int), .int .u8 (d.toNat : Int)] h Q :=
  rec_marked.ok fun b hb => marked_L2 s.length s [] m _ (Nat.le_refl _) (by simp; omega) (BdP.new (Part.refl _) hb) fun h' p => by
    have := hq h' p
    rw [List.nil_append]; exact this

theorem plain_L2 {h0 : Heap} {b : Nat} {Q : Value → Heap → Prop} : ∀ (n : Nat) (s : List UInt8) (l : List UInt8) (h : Heap), s.length ≤ n → l.length + s.length ≤ 100000 → BdP h0 h b l →
    (∀ h', Part h0 h' → Q (.string (mkB (l ++ pl s))) h') → rec_plain.L2 (mkB s) b h Q := by
  intro n
  induction n with
  | zero =>
    intro s l h hs hl w hq
    rw [pl_short (by omega), List.append_nil] at hq
    exact rec_plain.L2.ok (xsIf_f (by rw [mkB_size]; simp; omega) (w.done (by omega) fun h' p => ⟨_, rfl, hq h' p⟩))
  | succ n ih =>
    intro s l h hs hl w hq
    by_cases h8 : 8 ≤ s.length
    · rw [pl_cons h8] at hq
      have e1 : sext (mkB s) 0 7 = mkB (s.take 7) := sext_mk (mkB s) (a := 0) (b := 7)
      have e2 : sext (mkB s) 8 ((mkB s).size : Int) = mkB (s.drop 8) := by
        rw [show sext (mkB s) 8 ((mkB s).size : Int) = mkB ((s.take (mkB s).size).drop 8) from sext_mk (mkB s) (a := 8), mkB_size, List.take_of_length_le (Nat.le_refl _)]
      refine rec_plain.L2.ok ?_
      unfold rec_plain.L2.wp
      rw [e1, e2]
      have hsz : (mkB (s.take 7)).size = 7 := by rw [mkB_size]; simp; omega
      refine xsIf_t (by rw [mkB_size]; simp; omega) ⟨⟨by decide, by rw [mkB_size]; omega⟩, w.str (by rw [hsz]; decide) (by rw [hsz]; omega) fun h1 w1 => ⟨_, _, rfl, ⟨by decide, by rw [mkB_size]; omega⟩, ?_⟩⟩
      refine ih (s.drop 8) _ h1 (by rw [List.length_drop]; omega) (by simp; omega) w1 fun h' p => ?_
      have := hq h' p
      simpa [List.append_assoc] using this
    · rw [pl_short (by omega), List.append_nil] at hq
      exact rec_plain.L2.ok (xsIf_f (by rw [mkB_size]; simp; omega) (w.done (by omega) fun h' p => ⟨_, rfl, hq h' p⟩))

theorem plain.c {s : List UInt8} {h : Heap} {Q : Value → Heap → Prop} (hs : s.length ≤ 10000) (hq : ∀ h', Part h h' → Q (.string (mkB (pl s))) h') : C Tryd.prog 45 #[.string (mkB s)] h Q :=
  rec_plain.ok fun b hb => plain_L2 s.length s [] _ (Nat.le_refl _) (by simp; omega) (BdP.new (Part.refl _) hb) fun h' p => by
    have := hq h' p
    rw [List.nil_append]; exact this

/-- The word of the check. -/
def sumW (s : List UInt8) : List UInt8 := mk (putL (sum32 s) 4) 48 0
theorem sumW_length (s : List UInt8) : (sumW s).length = 8 := by unfold sumW; rw [mk_length _ _ _ _ (Nat.le_refl _), putL_length]

theorem sum.c {s : List UInt8} {h : Heap} {Q : Value → Heap → Prop} (hs : s.length ≤ 10000) (hq : ∀ h', Part h h' → Q (.string (mkB (sumW s))) h') : C Tryd.prog 39 #[.string (mkB s)] h Q := by
  have h32 := sum32_lt s
  refine rec_sum.ok (crc_Sum32.c (by rw [mkB_size]; omega) ⟨_, rfl, ?_⟩)
  have e : IntKind.u64.wrap ((sum32 (mkB s).data.toList : Nat) : Int) = ((sum32 s : Nat) : Int) := by
    show IntKind.u64.wrap ((sum32 s : Nat) : Int) = _
    rw [u64_nat]; omega
  rw [e]
  refine le_Put.c (by omega) ⟨_, rfl, ?_⟩
  show C Tryd.prog 38 #[.string (mkB (putL (sum32 s) 4)), .int .u8 (((48 : UInt8).toNat : Nat) : Int), .int .u8 (((0 : UInt8).toNat : Nat) : Int)] h _
  exact marked.c (by rw [putL_length]; decide) fun h' p => ⟨_, rfl, hq h' p⟩
end Go.Gb
namespace Go.Gb
open Go.Proofs IntWalk

/-! ## Encode -/

def headL (e l q : Nat) (k : UInt8) (n : Nat) : List UInt8 := putL n 2 ++ [k] ++ putL e 4 ++ putL l 4 ++ putL q 4
theorem headL_length (e l q : Nat) (k : UInt8) (n : Nat) : (headL e l q k n).length = 15 := by unfold headL; simp [putL_length]
def rcA (e l q : Nat) (k : UInt8) (body : List UInt8) : List UInt8 := mk (headL e l q k body.length ++ List.replicate 6 0) 17 1 ++ mk body 32 0
def rcE (e l q : Nat) (k : UInt8) (body : List UInt8) : List UInt8 := rcA e l q k body ++ sumW (rcA e l q k body)
def rcR (e l q : Nat) (k : UInt8) (body : List UInt8) : List UInt8 × Int := if k ≠ 0 ∧ body.length ≤ 1024 then (rcE e l q k body, 0) else ([], 2)

theorem rcA_length (e l q : Nat) (k : UInt8) (body : List UInt8) : (rcA e l q k body).length = 24 + 8 * ((body.length + 6) / 7) := by
  unfold rcA
  rw [List.length_append, mk_length _ _ _ _ (Nat.le_refl _), mk_length _ _ _ _ (Nat.le_refl _), List.length_append, headL_length, List.length_replicate]

theorem right.c {k : UInt8} {body : List UInt8} {h : Heap} {Q : Value → Heap → Prop} (hq : Q (.bool (decide (k ≠ 0 ∧ body.length ≤ 1024))) h) : C Tryd.prog 24 #[.agg #[.int .u8 (k.toNat : Int), .string (mkB body)]] h Q := by
  have h0 : ((k.toNat : Int) = 0) ↔ k = 0 := by
    rw [← UInt8.toNat_inj]; show _ ↔ k.toNat = 0; omega
  refine rec_Record_Right.ok (xsIf_intro (fun e => ?_) fun e => ?_)
  · have e : k ≠ 0 := fun hk => by simp only [decide_eq_true_eq] at e; exact e (h0.2 hk)
    have : decide (((mkB body).size : Int) ≤ 1024) = decide (k ≠ 0 ∧ body.length ≤ 1024) := by
      rw [mkB_size, Bool.eq_iff_iff, decide_eq_true_eq, decide_eq_true_eq]
      constructor
      · intro h; exact ⟨e, by omega⟩
      · intro h; omega
    rw [this]; exact hq
  · have e : k = 0 := by
      have e2 : ¬ ((k.toNat : Int) ≠ 0) := by rw [decide_eq_false_iff_not] at e; exact e
      exact h0.1 (Classical.byContradiction fun h => e2 h)
    have : decide (k ≠ 0 ∧ body.length ≤ 1024) = false := by rw [decide_eq_false_iff_not]; exact fun h => h.1 e
    rw [this] at hq; exact hq

theorem words.c {n : Nat} {h : Heap} {Q : Value → Heap → Prop} (hn : n ≤ 1000000) (hq : Q (.int .i64 (((n + 6) / 7 : Nat) : Int)) h) : C Tryd.prog 43 #[.int .i64 (n : Int)] h Q := by
  refine rec_words.ok ?_
  unfold rec_words.wp
  have e : iquo .i64 (IntKind.i64.wrap (IntKind.i64.wrap ((n : Int) + 7) - 1)) 7 = (((n + 6) / 7 : Nat) : Int) := by
    rw [i64_in ((n : Int) + 7) (by omega), i64_in _ (by omega)]
    have e2 : (n : Int) + 7 - 1 = ((n + 6 : Nat) : Int) := by omega
    rw [e2]
    unfold iquo
    rw [Int.tdiv_eq_ediv_of_nonneg (by omega)]
    have e3 : ((n + 6 : Nat) : Int) / 7 = (((n + 6) / 7 : Nat) : Int) := rfl
    rw [e3, i64_in _ (by omega)]
  rw [e]; exact hq

theorem size.c {k : UInt8} {body : List UInt8} {h : Heap} {Q : Value → Heap → Prop} (hb : body.length ≤ 10000) (hq : Q (.int .i64 (if k ≠ 0 ∧ body.length ≤ 1024 then ((8 * (3 + (body.length + 6) / 7 + 1) : Nat) : Int) else 0)) h) :
    C Tryd.prog 25 #[.agg #[.int .u8 (k.toNat : Int), .string (mkB body)]] h Q := by
  refine rec_Record_Size.ok (right.c ⟨_, rfl, xsIf_intro (fun e => ?_) fun e => ?_⟩)
  · rw [if_neg (fun h => by rw [decide_eq_true h] at e; cases e)] at hq; exact hq
  · rw [if_pos (by simpa using e)] at hq
    rw [mkB_size]
    refine words.c (by omega) ⟨_, rfl, ?_⟩
    rw [i64_in (3 + (((body.length + 6) / 7 : Nat) : Int)) (by omega), i64_in (3 + (((body.length + 6) / 7 : Nat) : Int) + 1) (by omega), i64_in _ (by omega)]
    have e2 : 8 * (3 + (((body.length + 6) / 7 : Nat) : Int) + 1) = ((8 * (3 + (body.length + 6) / 7 + 1) : Nat) : Int) := by omega
    rw [e2]; exact hq

theorem byte_str {h : Heap} {b : Nat} {k : UInt8} {K : ByteArray → Prop} (hb : h b = some (.cells #[.int .u8 (k.toNat : Int)] 5 (0, 0))) (hK : K (mkB [k])) : xsStr h (some ⟨b, 0, none⟩) 1 K :=
  ⟨[k], rfl, .inr ⟨b, 0, rfl, fun j hj => by
    have : j = 0 := by simpa [byteVals] using hj
    subst this
    unfold Heap.cell; rw [hb]; rfl⟩, hK⟩

theorem putc {n : Nat} {k : Nat} {h : Heap} {Q : Value → Heap → Prop} (hk : k ≤ 8) (hn : n < 18446744073709551616) (hq : Q (.string (mkB (putL n k))) h) : C Tryd.prog 36 #[.int .u64 (IntKind.u64.wrap (n : Int)), .int .i64 (k : Int)] h Q := by
  rw [u64_nat' hn]
  refine le_Put.c hn ?_
  have : cnt (k : Int) = k := by unfold cnt; omega
  rw [this]; exact hq

theorem encode.c {e l q : Nat} {k : UInt8} {body : List UInt8} {h : Heap} {Q : Value → Heap → Prop} (he : e < 4294967296) (hl : l < 4294967296) (hqq : q < 4294967296) (hb : body.length ≤ 5000)
    (hq : ∀ h', Part h h' → Q (.tuple #[.string (mkB (rcR e l q k body).1), .int .i64 (rcR e l q k body).2]) h') :
    C Tryd.prog 20 #[.agg #[.int .u32 (e : Int), .int .u32 (l : Int), .int .u32 (q : Int)], .agg #[.int .u8 (k.toNat : Int), .string (mkB body)]] h Q := by
  refine rec_Encode.ok (right.c ⟨_, rfl, xsIf_intro (fun hr => ?_) fun hr => ?_⟩)
  · have := hq h (Part.refl _)
    unfold rcR at this
    rw [if_neg (fun h => by rw [decide_eq_true h] at hr; cases hr)] at this; exact this
  have hr : k ≠ 0 ∧ body.length ≤ 1024 := by simpa using hr
  have hE : rcR e l q k body = (rcE e l q k body, 0) := if_pos hr
  rw [hE] at hq
  have hsz : ((mkB body).size : Int) = (body.length : Int) := by rw [mkB_size]
  have go : ∀ (h1 : Heap), Part h h1 → ∀ b1, h1 b1 = none → rec_Encode.L5 (mkB (putL body.length 2) ++ mkB [k]) (some ⟨b1, 0, none⟩) 3 3 3 0 (k.toNat : Int) (mkB body) (upd h1 b1 (.cells #[.int .u32 (e : Int), .int .u32 (l : Int), .int .u32 (q : Int)] 42 (0, 0))) Q := by
    intro h1 p1 b1 hb1
    have B := Blk.new h1 b1 #[.int .u32 (e : Int), .int .u32 (l : Int), .int .u32 (q : Int)] 42
    have p2 : Part h (upd h1 b1 (.cells #[.int .u32 (e : Int), .int .u32 (l : Int), .int .u32 (q : Int)] 42 (0, 0))) := p1.upd' (p1.none hb1) _
    revert B p2
    generalize upd h1 b1 (.cells #[.int .u32 (e : Int), .int .u32 (l : Int), .int .u32 (q : Int)] 42 (0, 0)) = g
    intro B p2
    have pl2 := putL_length 2 body.length
    have p4 := putL_length 4
    rw [mkB_append]
    refine rec_Encode.L5.ok (xsIf_t (by decide) ⟨by decide, b1, 0, rfl, e, B.cell 0, putc (by decide) (by omega) ⟨_, rfl, by rw [mkB_size, mkB_size]; simp [putL_length], ?_⟩⟩)
    rw [mkB_append]
    refine rec_Encode.L5.ok (xsIf_t (by decide) ⟨by decide, b1, 0, rfl, l, B.cell 1, putc (by decide) (by omega) ⟨_, rfl, by rw [mkB_size, mkB_size]; simp [putL_length], ?_⟩⟩)
    rw [mkB_append]
    refine rec_Encode.L5.ok (xsIf_t (by decide) ⟨by decide, b1, 0, rfl, q, B.cell 2, putc (by decide) (by omega) ⟨_, rfl, by rw [mkB_size, mkB_size]; simp [putL_length], ?_⟩⟩)
    rw [mkB_append]
    have eh : putL body.length 2 ++ [k] ++ putL e 4 ++ putL l 4 ++ putL q 4 = headL e l q k body.length := rfl
    rw [eh]
    have h15 := headL_length e l q k body.length
    refine rec_Encode.L5.ok (xsIf_f (by decide) ?_)
    have e6 : IntKind.i64.wrap (21 - ((mkB (headL e l q k body.length)).size : Int)) = ((6 : Nat) : Int) := by rw [mkB_size, h15]; rfl
    rw [e6]
    refine strings_Repeat.c (by decide) (by decide) ⟨_, rfl, ?_⟩
    have er : ({ data := (Lib.repeatL ({ data := #[UInt8.ofNat 0] } : ByteArray).data.toList 6).toArray } : ByteArray) = mkB (List.replicate 6 0) := by
      show mkB (Lib.repeatL [0] _) = _
      rw [repeat_zero]
    rw [er, mkB_append]
    refine ⟨by rw [mkB_size, mkB_size, h15]; simp, ?_⟩
    refine marked.c (m := 17) (d := 1) (by rw [List.length_append, h15]; simp) fun h3 p3 => ⟨_, rfl, ?_⟩
    refine marked.c (m := 32) (d := 0) (by omega) fun h4 p4 => ⟨_, rfl, ?_⟩
    rw [mkB_append]
    have eA : mk (headL e l q k body.length ++ List.replicate 6 0) 17 1 ++ mk body 32 0 = rcA e l q k body := rfl
    rw [eA]
    have lA := rcA_length e l q k body
    have l1 : (mk (headL e l q k body.length ++ List.replicate 6 0) 17 1).length = 24 := by rw [mk_length _ _ _ _ (Nat.le_refl _), List.length_append, h15]; simp
    have l2 : (mk body 32 0).length = 8 * ((body.length + 6) / 7) := mk_length _ _ _ _ (Nat.le_refl _)
    refine ⟨by rw [mkB_size, mkB_size, l1, l2]; omega, sum.c (by omega) fun h5 p5 => ⟨_, rfl, ?_, ?_⟩⟩
    · rw [mkB_size, mkB_size, lA, sumW_length]; omega
    · rw [mkB_append]
      exact hq h5 (((p2.trans p3).trans p4).trans p5)
  rw [hsz]
  have ps : ∀ {g : Heap} {Q' : Value → Heap → Prop}, Q' (.string (mkB (putL body.length 2))) g → C Tryd.prog 36 #[.int .u64 (IntKind.u64.wrap (body.length : Int)), .int .i64 2] g Q' := fun hq' => putc (k := 2) (by decide) (by omega) hq'
  have bd : (((mkB (putL body.length 2)).size + (mkB [k]).size : Nat) : Int) ≤ 9223372036854775807 := by rw [mkB_size, mkB_size, putL_length, List.length_singleton]; decide
  refine ⟨ps ⟨_, rfl, fun b hb' => byte_str (upd_same _ _ _) ⟨bd, fun b1 hb1 => go _ (Part.upd hb' _) b1 hb1⟩⟩, fun b hb' => ⟨ps ⟨_, rfl, byte_str (upd_same _ _ _) ⟨bd, fun b1 hb1 => go _ (Part.upd hb' _) b1 hb1⟩⟩, byte_str (upd_same _ _ _) (ps ⟨_, rfl, bd, fun b1 hb1 => go _ (Part.upd hb' _) b1 hb1⟩)⟩⟩
end Go.Gb
namespace Go.Gb
open Go.Proofs IntWalk

/-! ## Decode of the program -/

theorem pl_length : ∀ (n : Nat) (s : List UInt8), s.length ≤ n → (pl s).length = 7 * (s.length / 8)
  | 0, s, h => by rw [pl_short (by omega)]; simp; omega
  | n + 1, s, h => by
    by_cases h8 : 8 ≤ s.length
    · rw [pl_cons h8, List.length_append, pl_length n _ (by rw [List.length_drop]; omega), List.length_drop, List.length_take]
      omega
    · rw [pl_short (by omega)]; simp; omega

theorem getL_most : ∀ (l : List UInt8) (n : Nat), l.length ≤ n → getL l < 256 ^ n
  | [], n, _ => by show 0 < 256 ^ n; exact Nat.pos_of_ne_zero (by simp)
  | b :: l, n, h => by
    obtain ⟨m, rfl⟩ : ∃ m, n = m + 1 := ⟨n - 1, by simp at h; omega⟩
    have := getL_most l m (by simp at h; omega)
    have hb : b.toNat < 256 := b.toNat_lt
    show b.toNat + 256 * getL l < 256 ^ (m + 1)
    rw [Nat.pow_succ]
    omega

abbrev Rd := Nat × Nat × Nat × UInt8 × List UInt8 × Int
def dnone (e : Int) : Rd := (0, 0, 0, 0, [], e)
def hdOf (s : List UInt8) : List UInt8 := pl (s.take 24)
def nOf (s : List UInt8) : Nat := getL ((hdOf s).take 2)
def stOf (s : List UInt8) (i : Nat) : Nat := getL (((hdOf s).drop (3 + 4 * i)).take 4)
def kOf (s : List UInt8) : UInt8 := (hdOf s).getD 2 0
def allZ (l : List UInt8) : Prop := ∀ b ∈ l, b = 0
def beginsP (s : List UInt8) : Prop := mk (hdOf s) 17 1 = s.take 24 ∧ allZ ((hdOf s).drop 15) ∧ kOf s ≠ 0 ∧ nOf s ≤ 1024
def endOf (s : List UInt8) : Nat := 24 + 8 * ((nOf s + 6) / 7)
def rbodyOf (s : List UInt8) : List UInt8 := (pl ((s.take (endOf s)).drop 24)).take (nOf s)
def sumAt (s : List UInt8) : List UInt8 := (s.take (endOf s + 8)).drop (endOf s)
open Classical in
noncomputable def rdec (s : List UInt8) : Rd :=
  if s.length < 24 ∨ ¬ beginsP s ∨ s.length < endOf s + 8 then dnone 4
  else if mk (rbodyOf s) 32 0 ≠ (s.take (endOf s)).drop 24 ∨ mk ((pl (sumAt s)).take 4) 48 0 ≠ sumAt s then dnone 4
  else if sumW (s.take (endOf s)) ≠ sumAt s then dnone 5
  else (stOf s 0, stOf s 1, stOf s 2, kOf s, rbodyOf s, 0)

theorem hd_len {s : List UInt8} (h : 24 ≤ s.length) : (hdOf s).length = 21 := by
  unfold hdOf
  rw [pl_length _ _ (Nat.le_refl _), List.length_take, Nat.min_eq_left h]
theorem nOf_lt (s : List UInt8) : nOf s < 65536 := getL_most _ 2 (by rw [List.length_take]; omega)
theorem stOf_lt (s : List UInt8) (i : Nat) : stOf s i < 4294967296 := getL_most _ 4 (by rw [List.length_take]; omega)

theorem bget_mk (l : List UInt8) {i : Nat} (h : i < l.length) : bget (mkB l) i = some l[i] := by
  rw [bget_get (by rw [mkB_size]; exact h)]

/-! strings.Trim of zeros -/

theorem trimR {Q : Value → Heap → Prop} {h : Heap} : ∀ (n : Nat) (s : List UInt8), s.length ≤ n → s.length ≤ 1000000 → (∀ t, (allZ t ↔ allZ s) → t.length ≤ s.length → Q (.string (mkB t)) h) → strings_trimRightByte.L1 (mkB s) 0 h Q
  | 0, s, hn, hs, hq => by
    exact strings_trimRightByte.L1.ok (xsIf_f (decide_eq_false (by rw [mkB_size]; omega)) (hq s Iff.rfl (Nat.le_refl _)))
  | n + 1, s, hn, hs, hq => by
    by_cases e : s = []
    · subst e
      exact strings_trimRightByte.L1.ok (xsIf_f rfl (hq [] Iff.rfl (Nat.le_refl _)))
    · obtain ⟨t, x, hx⟩ : ∃ t x, s = t ++ [x] := ⟨_, _, (List.dropLast_concat_getLast e).symm⟩
      subst hx
      have hl : (t ++ [x]).length = t.length + 1 := by simp
      have e1 : IntKind.i64.wrap (((mkB (t ++ [x])).size : Int) - 1) = (t.length : Int) := by rw [mkB_size, hl, i64_in _ (by omega)]; omega
      refine strings_trimRightByte.L1.ok ?_
      unfold strings_trimRightByte.L1.wp
      rw [e1]
      have hg : bget (mkB (t ++ [x])) t.length = some x := by
        rw [bget_mk _ (by rw [hl]; omega)]; simp
      refine xsIf_t (decide_eq_true (by rw [mkB_size, hl]; omega)) ⟨x, by omega, hg, xsIf_intro (fun hz => ⟨⟨by omega, by rw [mkB_size, hl]; omega⟩, ?_⟩) fun hz => hq _ Iff.rfl (Nat.le_refl _)⟩
      have hz : x = 0 := by
        have : (x.toNat : Int) = 0 := by simpa using hz
        rw [← UInt8.toNat_inj]; show x.toNat = 0; omega
      have e2 : sext (mkB (t ++ [x])) 0 (t.length : Int) = mkB t := by
        have := sext_mk (mkB (t ++ [x])) (a := 0) (b := t.length)
        rw [List.drop_zero] at this
        rw [show sext (mkB (t ++ [x])) 0 (t.length : Int) = _ from this]
        show mkB ((t ++ [x]).take t.length) = mkB t
        simp
      rw [e2]
      refine trimR n t (by omega) (by omega) fun u hu hul => hq u ?_ (by omega)
      rw [hu]
      unfold allZ
      constructor
      · intro h b hb
        rcases List.mem_append.1 hb with hb | hb
        · exact h b hb
        · have : b = x := by simpa using hb
          rw [this]; exact hz
      · intro h b hb; exact h b (by simp [hb])

theorem trimLft {Q : Value → Heap → Prop} {h : Heap} : ∀ (n : Nat) (s : List UInt8), s.length ≤ n → (∀ t, (t = [] ↔ allZ s) → Q (.string (mkB t)) h) → strings_trimLeftByte.L1 (mkB s) 0 h Q
  | 0, s, hn, hq => by
    have : s = [] := List.eq_nil_of_length_eq_zero (by omega)
    subst this
    exact strings_trimLeftByte.L1.ok (xsIf_f rfl (hq [] ⟨fun _ b hb => by simp at hb, fun _ => rfl⟩))
  | n + 1, [], hn, hq => strings_trimLeftByte.L1.ok (xsIf_f rfl (hq [] ⟨fun _ b hb => by simp at hb, fun _ => rfl⟩))
  | n + 1, x :: t, hn, hq => by
    have hg : bget (mkB (x :: t)) 0 = some x := by
      exact bget_mk (x :: t) (i := 0) (by simp)
    refine strings_trimLeftByte.L1.ok (xsIf_t (decide_eq_true (by rw [mkB_size, List.length_cons]; omega)) ⟨x, by decide, hg, xsIf_intro (fun hz => ⟨⟨by decide, by rw [mkB_size, List.length_cons]; omega⟩, ?_⟩) fun hz => hq _ ?_⟩)
    · have hz : x = 0 := by
        have : (x.toNat : Int) = 0 := by simpa using hz
        rw [← UInt8.toNat_inj]; show x.toNat = 0; omega
      have e2 : sext (mkB (x :: t)) 1 ((mkB (x :: t)).size : Int) = mkB t := by
        rw [show sext (mkB (x :: t)) 1 ((mkB (x :: t)).size : Int) = mkB (((x :: t).take (mkB (x :: t)).size).drop 1) from sext_mk (mkB (x :: t)) (a := 1), mkB_size, List.take_of_length_le (Nat.le_refl _)]
        rfl
      rw [e2]
      refine trimLft n t (by simp at hn; omega) fun u hu => hq u ?_
      rw [hu]
      unfold allZ
      constructor
      · intro h b hb
        rcases List.mem_cons.1 hb with rfl | hb
        · exact hz
        · exact h b hb
      · intro h b hb; exact h b (by simp [hb])
    · have hz : ¬ ((x.toNat : Int) = 0) := by simpa using hz
      constructor
      · intro h; cases h
      · intro h
        have := h x (by simp)
        rw [this] at hz; exact absurd rfl hz

set_option maxRecDepth 1000000 in
theorem trim.c {s : List UInt8} {h : Heap} {Q : Value → Heap → Prop} (hs : s.length ≤ 1000000) (hq : ∀ t, (t = [] ↔ allZ s) → Q (.string (mkB t)) h) : C Tryd.prog 64 #[.string (mkB s), .string ⟨#[UInt8.ofNat 0]⟩] h Q := by
  refine strings_Trim.ok (xsIf_intro (fun e => ?_) fun e => xsIf_f rfl (strings_Trim.J3.ok (xsIf_t rfl ⟨0, by decide, rfl, xsIf_t (by decide) ⟨0, by decide, rfl, 0, by decide, rfl, ?_⟩⟩)))
  · have e : s = [] := (mkB_nil_iff s).1 (by simpa using e)
    exact hq s ⟨fun _ b hb => (by rw [e] at hb; cases hb), fun _ => e⟩
  · refine strings_trimRightByte.ok (trimR s.length s (Nat.le_refl _) hs fun t ht _ => ⟨_, rfl, strings_trimLeftByte.ok (trimLft t.length t (Nat.le_refl _) fun u hu => ⟨_, rfl, hq u (hu.trans ht)⟩)⟩)

theorem number.c {s : List UInt8} {i : Nat} {h : Heap} {Q : Value → Heap → Prop} (hs : 24 ≤ s.length) (hi : i < 3) (hq : Q (.int .u32 (stOf s i : Nat)) h) : C Tryd.prog 65 #[.string (mkB (hdOf s)), .int .i64 (i : Int)] h Q := by
  have hl := hd_len hs
  refine rec_number.ok ?_
  unfold rec_number.wp
  have e1 : IntKind.i64.wrap (3 + IntKind.i64.wrap ((i : Int) * 4)) = ((3 + 4 * i : Nat) : Int) := by rw [i64_in ((i : Int) * 4) (by omega), i64_in _ (by omega)]; omega
  rw [e1]
  have e2 : IntKind.i64.wrap (((3 + 4 * i : Nat) : Int) + 4) = ((3 + 4 * i + 4 : Nat) : Int) := by rw [i64_in _ (by omega)]; omega
  rw [e2, mkB_size, hl]
  have e3 : sext (mkB (hdOf s)) ((3 + 4 * i : Nat) : Int) ((3 + 4 * i + 4 : Nat) : Int) = mkB (((hdOf s).drop (3 + 4 * i)).take 4) := by
    rw [show sext (mkB (hdOf s)) ((3 + 4 * i : Nat) : Int) ((3 + 4 * i + 4 : Nat) : Int) = mkB (((hdOf s).take (3 + 4 * i + 4)).drop (3 + 4 * i)) from sext_mk (mkB (hdOf s)), List.take_drop]
  rw [e3]
  refine ⟨⟨by omega, by omega⟩, ⟨by omega, by omega⟩, le_Get.c (by rw [mkB_size, List.length_take]; omega) ⟨_, rfl, ?_⟩⟩
  have e4 : get8 (mkB (((hdOf s).drop (3 + 4 * i)).take 4)) = stOf s i := by
    unfold get8 stOf
    show getL ((((hdOf s).drop (3 + 4 * i)).take 4).take 8) = _
    rw [List.take_of_length_le (by rw [List.length_take]; omega)]
  rw [e4]
  have e5 : IntKind.u32.wrap ((stOf s i : Nat) : Int) = ((stOf s i : Nat) : Int) := by
    have := stOf_lt s i
    simp only [IntKind.wrap]
    simp (config := { decide := true }) [IntKind.bits, IntKind.signed]
    omega
  rw [e5]; exact hq

/-- What begins gives. -/
theorem begins.c {s : List UInt8} {h : Heap} {Q : Value → Heap → Prop} (hs : s.length ≤ 10000)
    (h0 : s.length < 24 → Q (.tuple #[.agg #[.int .u32 0, .int .u32 0, .int .u32 0], .agg #[.int .u8 0, .string ⟨#[]⟩], .int .i64 0, .bool false]) h)
    (h1 : ∀ (ok : Bool) h', 24 ≤ s.length → (ok = true ↔ beginsP s) → Part h h' → Q (.tuple #[.agg #[.int .u32 (stOf s 0 : Nat), .int .u32 (stOf s 1 : Nat), .int .u32 (stOf s 2 : Nat)], .agg #[.int .u8 ((kOf s).toNat : Int), .string ⟨#[]⟩], .int .i64 (nOf s : Nat), .bool ok]) h') :
    C Tryd.prog 44 #[.string (mkB s)] h Q := by
  refine rec_begins.ok (xsIf_intro (fun e => h0 ?_) fun e => ?_)
  · have e : ((mkB s).size : Int) < 24 := by simpa using e
    rw [mkB_size] at e; omega
  have e : 24 ≤ s.length := by
    have e : ¬ ((mkB s).size : Int) < 24 := by simpa using e
    rw [mkB_size] at e; omega
  have hl := hd_len e
  have e24 : sext (mkB s) 0 24 = mkB (s.take 24) := sext_mk (mkB s) (a := 0) (b := 24)
  rw [e24]
  have hb24 : (0 : Int) ≤ 24 ∧ (24 : Int) ≤ ((mkB s).size : Int) := by rw [mkB_size]; omega
  refine ⟨hb24, plain.c (by rw [List.length_take]; omega) fun g p => ⟨_, rfl, ?_⟩⟩
  show _ ∧ C Tryd.prog 63 #[.string (sext (mkB (hdOf s)) 0 2)] g _
  have e2 : sext (mkB (hdOf s)) 0 2 = mkB ((hdOf s).take 2) := sext_mk (mkB (hdOf s)) (a := 0) (b := 2)
  rw [e2]
  refine ⟨⟨by decide, by show (2 : Int) ≤ ((mkB (hdOf s)).size : Int); rw [mkB_size, hl]; decide⟩, le_Get.c (by rw [mkB_size, List.length_take]; omega) ⟨_, rfl, kOf s, by decide, ?_, hb24, ?_⟩⟩
  · show bget (mkB (hdOf s)) 2 = _
    rw [bget_mk _ (by omega)]
    unfold kOf
    rw [List.getD_eq_getElem?_getD, List.getElem?_eq_getElem (by omega)]; rfl
  have en : get8 (mkB ((hdOf s).take 2)) = nOf s := by
    unfold get8 nOf
    show getL (((hdOf s).take 2).take 8) = _
    rw [List.take_of_length_le (by rw [List.length_take]; omega)]
  rw [en]
  have hn := nOf_lt s
  have ew : IntKind.i64.wrap ((nOf s : Nat) : Int) = ((nOf s : Nat) : Int) := i64_in _ (by omega)
  show C Tryd.prog 38 #[.string (mkB (hdOf s)), .int .u8 (((17 : UInt8).toNat : Nat) : Int), .int .u8 (((1 : UInt8).toNat : Nat) : Int)] g _
  refine marked.c (by omega) fun g2 p2 => ⟨_, rfl, ?_⟩
  have hP := p.trans p2
  rw [ew]
  have hinj : ∀ a b : List UInt8, mkB a = mkB b ↔ a = b := fun a b => ⟨fun h => congrArg (fun x : ByteArray => x.data.toList) h, fun h => by rw [h]⟩
  have nums : ∀ {Q' : Int → Int → Int → Heap → Prop}, Q' (stOf s 0 : Nat) (stOf s 1 : Nat) (stOf s 2 : Nat) g2 → C Tryd.prog 65 #[.string (mkB (hdOf s)), .int .i64 0] g2 fun r h' => ∃ x : Int, r = .int .u32 x ∧ C Tryd.prog 65 #[.string (mkB (hdOf s)), .int .i64 1] h' fun r h' => ∃ y : Int, r = .int .u32 y ∧ C Tryd.prog 65 #[.string (mkB (hdOf s)), .int .i64 2] h' fun r h' => ∃ z : Int, r = .int .u32 z ∧ Q' x y z h' :=
    fun hq => number.c (i := 0) e (by decide) ⟨_, rfl, number.c (i := 1) e (by decide) ⟨_, rfl, number.c (i := 2) e (by decide) ⟨_, rfl, hq⟩⟩⟩
  refine xsIf_intro (fun h2 => ⟨⟨by decide, by show (15 : Int) ≤ ((mkB (hdOf s)).size : Int); rw [mkB_size, hl]; decide⟩, ?_⟩) fun h2 => ?_
  · have h2 : mk (hdOf s) 17 1 = s.take 24 := (hinj _ _).1 (by simpa using h2)
    show C Tryd.prog 64 #[.string (sext (mkB (hdOf s)) 15 ((mkB (hdOf s)).size : Int)), .string ⟨#[UInt8.ofNat 0]⟩] g2 _
    have e15 : sext (mkB (hdOf s)) 15 ((mkB (hdOf s)).size : Int) = mkB ((hdOf s).drop 15) := by
      rw [show sext (mkB (hdOf s)) 15 ((mkB (hdOf s)).size : Int) = mkB (((hdOf s).take (mkB (hdOf s)).size).drop 15) from sext_mk (mkB (hdOf s)) (a := 15), mkB_size, List.take_of_length_le (Nat.le_refl _)]
    rw [e15]
    refine trim.c (by rw [List.length_drop]; omega) fun t ht => ⟨_, rfl, nums ?_⟩
    refine xsIf_intro (fun h3 => ?_) fun h3 => ?_
    · have h3 : t = [] := (mkB_nil_iff t).1 (by simpa using h3)
      have hz := ht.1 h3
      refine right.c (body := []) ⟨_, rfl, xsIf_intro (fun h4 => ?_) fun h4 => ?_⟩
      · have h4 : kOf s ≠ 0 := by
          have := of_decide_eq_true h4
          exact this.1
        refine h1 _ g2 e ?_ hP
        rw [decide_eq_true_eq]
        exact ⟨fun h => ⟨h2, hz, h4, by omega⟩, fun h => by have := h.2.2.2; omega⟩
      · have h4 : kOf s = 0 := by
          have := of_decide_eq_false h4
          exact Classical.byContradiction fun hne => this ⟨hne, by simp⟩
        refine h1 false g2 e ⟨fun h => (by cases h), fun h => absurd h4 h.2.2.1⟩ hP
    · have h3 : t ≠ [] := fun e => by rw [e] at h3; simp at h3
      exact h1 false g2 e ⟨fun h => (by cases h), fun h => absurd (ht.2 h.2.1) h3⟩ hP
  · have h2 : mk (hdOf s) 17 1 ≠ s.take 24 := fun e => by rw [e] at h2; simp at h2
    exact nums (h1 false g2 e ⟨fun h => (by cases h), fun h => absurd h.1 h2⟩ hP)
end Go.Gb
namespace Go.Gb
open Go.Proofs IntWalk

/-! ## Decode -/

def rdV (r : Rd) : Value := .tuple #[.agg #[.int .u32 (r.1 : Nat), .int .u32 (r.2.1 : Nat), .int .u32 (r.2.2.1 : Nat)], .agg #[.int .u8 (r.2.2.2.1.toNat : Int), .string (mkB r.2.2.2.2.1)], .int .i64 r.2.2.2.2.2]

theorem mkB_inj (a b : List UInt8) : mkB a = mkB b ↔ a = b := ⟨fun h => congrArg (fun x : ByteArray => x.data.toList) h, fun h => by rw [h]⟩

theorem decode.c {s : List UInt8} {h : Heap} {Q : Value → Heap → Prop} (hs : s.length ≤ 5000) (hq : ∀ h', Part h h' → Q (rdV (rdec s)) h') : C Tryd.prog 26 #[.string (mkB s)] h Q := by
  have no4 : (s.length < 24 ∨ ¬ beginsP s ∨ s.length < endOf s + 8) → rdec s = dnone 4 := fun hc => by unfold rdec; rw [if_pos hc]
  refine rec_Decode.ok (begins.c (by omega) (fun h0 => ⟨_, _, _, _, _, _, _, rfl, words.c (n := 0) (by decide) ⟨_, rfl, xsIf_t rfl ?_⟩⟩) fun ok g h24 hok hP => ⟨_, _, _, _, _, _, _, rfl, ?_⟩)
  · have := hq h (Part.refl _)
    rw [no4 (.inl h0)] at this; exact this
  have hn := nOf_lt s
  refine words.c (by omega) ⟨_, rfl, xsIf_intro (fun h1 => ?_) fun h1 => ?_⟩
  · have h1 : ¬ beginsP s := fun hb => by rw [hok.2 hb] at h1; cases h1
    have := hq g hP
    rw [no4 (.inr (.inl h1))] at this; exact this
  have hb : beginsP s := hok.1 (by simpa using h1)
  have hE : endOf s = 24 + 8 * ((nOf s + 6) / 7) := rfl
  have e0 : IntKind.i64.wrap (24 + IntKind.i64.wrap (8 * (((nOf s + 6) / 7 : Nat) : Int))) = ((endOf s : Nat) : Int) := by rw [i64_in (8 * (((nOf s + 6) / 7 : Nat) : Int)) (by omega), i64_in _ (by omega)]; omega
  have e8 : IntKind.i64.wrap (((endOf s : Nat) : Int) + 8) = ((endOf s + 8 : Nat) : Int) := by rw [i64_in _ (by omega)]; omega
  rw [e0, e8]
  refine xsIf_intro (fun h2 => ?_) fun h2 => ?_
  · have h2 : ((mkB s).size : Int) < ((endOf s + 8 : Nat) : Int) := by simpa using h2
    rw [mkB_size] at h2
    have := hq g hP
    rw [no4 (.inr (.inr (by omega)))] at this; exact this
  have h2 : endOf s + 8 ≤ s.length := by
    have h2 : ¬ ((mkB s).size : Int) < ((endOf s + 8 : Nat) : Int) := by simpa using h2
    rw [mkB_size] at h2; omega
  have hnot : ¬ (s.length < 24 ∨ ¬ beginsP s ∨ s.length < endOf s + 8) := by
    rintro (h | h | h)
    · omega
    · exact h hb
    · omega
  have s1 : sext (mkB s) 24 ((endOf s : Nat) : Int) = mkB ((s.take (endOf s)).drop 24) := sext_mk (mkB s) (a := 24)
  have s2 : sext (mkB s) ((endOf s : Nat) : Int) ((endOf s + 8 : Nat) : Int) = mkB (sumAt s) := sext_mk (mkB s)
  have s3 : sext (mkB s) 0 ((endOf s : Nat) : Int) = mkB (s.take (endOf s)) := sext_mk (mkB s) (a := 0)
  refine rec_Decode.J6.ok ?_
  unfold rec_Decode.J6.wp
  rw [e8, s1, s2, mkB_size]
  have b1 : (0 : Int) ≤ ((endOf s : Nat) : Int) ∧ ((endOf s : Nat) : Int) ≤ (s.length : Int) := by omega
  have b2 : (0 : Int) ≤ 24 ∧ (24 : Int) ≤ ((endOf s : Nat) : Int) := by omega
  have b3 : (0 : Int) ≤ ((endOf s + 8 : Nat) : Int) ∧ ((endOf s + 8 : Nat) : Int) ≤ (s.length : Int) := by omega
  have b4 : (0 : Int) ≤ ((endOf s : Nat) : Int) ∧ ((endOf s : Nat) : Int) ≤ ((endOf s + 8 : Nat) : Int) := by omega
  have lb : ((s.take (endOf s)).drop 24).length = 8 * ((nOf s + 6) / 7) := by rw [List.length_drop, List.length_take]; omega
  have lp : (pl ((s.take (endOf s)).drop 24)).length = 7 * ((nOf s + 6) / 7) := by rw [pl_length _ _ (Nat.le_refl _), lb]; omega
  have ls : (sumAt s).length = 8 := by unfold sumAt; rw [List.length_drop, List.length_take]; omega
  have lps : (pl (sumAt s)).length = 7 := by rw [pl_length _ _ (Nat.le_refl _), ls]
  refine ⟨b1, b2, plain.c (by omega) fun g2 p2 => ⟨_, rfl, ?_⟩⟩
  have em : imin ((nOf s : Nat) : Int) ((mkB (pl ((s.take (endOf s)).drop 24))).size : Int) = ((nOf s : Nat) : Int) := by rw [imin_eq, mkB_size, lp]; omega
  rw [em]
  have s4 : sext (mkB (pl ((s.take (endOf s)).drop 24))) 0 ((nOf s : Nat) : Int) = mkB (rbodyOf s) := sext_mk (mkB (pl ((s.take (endOf s)).drop 24))) (a := 0)
  refine ⟨⟨by omega, by rw [mkB_size, lp]; omega⟩, b3, b4, plain.c (by omega) fun g3 p3 => ⟨_, rfl, b1, b2, ?_⟩⟩
  rw [s4]
  have lbo : (rbodyOf s).length ≤ 2000 := by unfold rbodyOf; rw [List.length_take]; have := hb.2.2.2; omega
  refine marked.c (m := 32) (d := 0) (by omega) fun g4 p4 => ⟨_, rfl, ?_⟩
  have hP4 := ((hP.trans p2).trans p3).trans p4
  refine xsIf_intro (fun h3 => ?_) fun h3 => ?_
  · have h3 : mk (rbodyOf s) 32 0 ≠ (s.take (endOf s)).drop 24 := fun e => by rw [e] at h3; simp at h3
    have := hq g4 hP4
    unfold rdec at this
    rw [if_neg hnot, if_pos (.inl h3)] at this; exact this
  have h3 : mk (rbodyOf s) 32 0 = (s.take (endOf s)).drop 24 := (mkB_inj _ _).1 (by simpa using h3)
  have s5 : sext (mkB (pl (sumAt s))) 0 4 = mkB ((pl (sumAt s)).take 4) := sext_mk (mkB (pl (sumAt s))) (a := 0) (b := 4)
  refine ⟨⟨by decide, by rw [mkB_size, lps]; decide⟩, b3, b4, ?_⟩
  rw [s5]
  refine marked.c (m := 48) (d := 0) (by rw [List.length_take]; omega) fun g5 p5 => ⟨_, rfl, ?_⟩
  have hP5 := hP4.trans p5
  refine xsIf_intro (fun h4 => ?_) fun h4 => ?_
  · have h4 : mk ((pl (sumAt s)).take 4) 48 0 ≠ sumAt s := fun e => by rw [e] at h4; simp at h4
    have := hq g5 hP5
    unfold rdec at this
    rw [if_neg hnot, if_pos (.inr h4)] at this; exact this
  have h4 : mk ((pl (sumAt s)).take 4) 48 0 = sumAt s := (mkB_inj _ _).1 (by simpa using h4)
  have hnot2 : ¬ (mk (rbodyOf s) 32 0 ≠ (s.take (endOf s)).drop 24 ∨ mk ((pl (sumAt s)).take 4) 48 0 ≠ sumAt s) := by
    rintro (h | h)
    · exact h h3
    · exact h h4
  refine rec_Decode.J11.ok ?_
  unfold rec_Decode.J11.wp
  rw [e8, s2, s3, mkB_size]
  refine ⟨b1, b3, b4, sum.c (by rw [List.length_take]; omega) fun g6 p6 => ⟨_, rfl, xsIf_intro (fun h5 => ?_) fun h5 => ?_⟩⟩
  · have h5 : sumW (s.take (endOf s)) ≠ sumAt s := fun e => by rw [e] at h5; simp at h5
    have := hq g6 (hP5.trans p6)
    unfold rdec at this
    rw [if_neg hnot, if_neg hnot2, if_pos h5] at this; exact this
  · have h5 : ¬ sumW (s.take (endOf s)) ≠ sumAt s := fun hne => by
      have h5 : mkB (sumW (s.take (endOf s))) = mkB (sumAt s) := by simpa using h5
      exact hne ((mkB_inj _ _).1 h5)
    have := hq g6 (hP5.trans p6)
    unfold rdec at this
    rw [if_neg hnot, if_neg hnot2, if_neg h5] at this; exact this
end Go.Gb
namespace Go.Gb
open Go.Proofs IntWalk

/-! ## A record's bytes, whatever stands behind them, are it again (no program in sight) -/

abbrev head21 (e l q : Nat) (k : UInt8) (n : Nat) : List UInt8 := headL e l q k n ++ List.replicate 6 0

theorem head21_length (e l q : Nat) (k : UInt8) (n : Nat) : (head21 e l q k n).length = 21 := by rw [List.length_append, headL_length, List.length_replicate]
theorem pad21 {l : List UInt8} (h : l.length = 21) : padTo l = l := by unfold padTo; rw [h]; simp

/-- What stands in bytes that begin with a record's first words. -/
theorem hd_of {e l q : Nat} {k : UInt8} {n : Nat} {r : List UInt8} : hdOf (mk (head21 e l q k n) 17 1 ++ r) = head21 e l q k n := by
  have hl : (mk (head21 e l q k n) 17 1).length = 24 := by rw [mk_length _ _ _ _ (Nat.le_refl _), head21_length]
  unfold hdOf
  rw [List.take_append_of_le_length (by omega), List.take_of_length_le (by omega), pl_mk _ _ _ _ (Nat.le_refl _), pad21 (head21_length _ _ _ _ _)]

theorem getput {n k : Nat} (h : n < 256 ^ k) : getL (putL n k) = n := by rw [getL_put, Nat.mod_eq_of_lt h]

theorem n_of {e l q : Nat} {k : UInt8} {n : Nat} {r : List UInt8} (hn : n < 65536) : nOf (mk (head21 e l q k n) 17 1 ++ r) = n := by
  unfold nOf
  rw [hd_of, show (head21 e l q k n).take 2 = putL n 2 from rfl, getput (by omega)]
theorem k_of {e l q : Nat} {k : UInt8} {n : Nat} {r : List UInt8} : kOf (mk (head21 e l q k n) 17 1 ++ r) = k := by
  unfold kOf
  rw [hd_of]; rfl
theorem st_of {e l q : Nat} {k : UInt8} {n : Nat} {r : List UInt8} (he : e < 4294967296) (hl : l < 4294967296) (hq : q < 4294967296) :
    stOf (mk (head21 e l q k n) 17 1 ++ r) 0 = e ∧ stOf (mk (head21 e l q k n) 17 1 ++ r) 1 = l ∧ stOf (mk (head21 e l q k n) 17 1 ++ r) 2 = q := by
  unfold stOf
  rw [hd_of]
  refine ⟨?_, ?_, ?_⟩
  · rw [show ((head21 e l q k n).drop (3 + 4 * 0)).take 4 = putL e 4 from rfl, getput (by omega)]
  · rw [show ((head21 e l q k n).drop (3 + 4 * 1)).take 4 = putL l 4 from rfl, getput (by omega)]
  · rw [show ((head21 e l q k n).drop (3 + 4 * 2)).take 4 = putL q 4 from rfl, getput (by omega)]

theorem begins_of {e l q : Nat} {k : UInt8} {n : Nat} {r : List UInt8} (hk : k ≠ 0) (hn : n ≤ 1024) : beginsP (mk (head21 e l q k n) 17 1 ++ r) := by
  have hl : (mk (head21 e l q k n) 17 1).length = 24 := by rw [mk_length _ _ _ _ (Nat.le_refl _), head21_length]
  refine ⟨?_, ?_, ?_, ?_⟩
  · rw [hd_of, List.take_append_of_le_length (by omega), List.take_of_length_le (by omega)]
  · rw [hd_of]
    intro b hb
    have : (head21 e l q k n).drop 15 = List.replicate 6 0 := rfl
    rw [this] at hb
    exact (List.mem_replicate.1 hb).2
  · rw [k_of]; exact hk
  · rw [n_of (by omega)]; exact hn

theorem sumW_pl (x : List UInt8) : (pl (sumW x)).take 4 = putL (sum32 x) 4 := by
  unfold sumW
  have h4 := putL_length 4 (sum32 x)
  rw [pl_mk _ _ _ _ (Nat.le_refl _)]
  unfold padTo
  rw [List.take_append_of_le_length (by omega), List.take_of_length_le (by omega)]

theorem rdec_back {e l q : Nat} {k : UInt8} {body t : List UInt8} (he : e < 4294967296) (hl : l < 4294967296) (hq : q < 4294967296) (hk : k ≠ 0) (hn : body.length ≤ 1024) :
    rdec (rcE e l q k body ++ t) = (e, l, q, k, body, 0) := by
  have hA := rcA_length e l q k body
  have hW := sumW_length (rcA e l q k body)
  have eS : rcE e l q k body ++ t = mk (head21 e l q k body.length) 17 1 ++ (mk body 32 0 ++ (sumW (rcA e l q k body) ++ t)) := by
    show (rcA e l q k body ++ sumW (rcA e l q k body)) ++ t = _
    rw [List.append_assoc]
    show (mk (head21 e l q k body.length) 17 1 ++ mk body 32 0) ++ _ = _
    rw [List.append_assoc]
  have eS2 : rcE e l q k body ++ t = rcA e l q k body ++ (sumW (rcA e l q k body) ++ t) := by unfold rcE; rw [List.append_assoc]
  have lH : (mk (head21 e l q k body.length) 17 1).length = 24 := by rw [mk_length _ _ _ _ (Nat.le_refl _), head21_length]
  have hN : nOf (rcE e l q k body ++ t) = body.length := by rw [eS]; exact n_of (by omega)
  have hE : endOf (rcE e l q k body ++ t) = (rcA e l q k body).length := by unfold endOf; rw [hN, hA]
  have hT : (rcE e l q k body ++ t).take (endOf (rcE e l q k body ++ t)) = rcA e l q k body := by
    rw [hE, eS2, List.take_append_of_le_length (Nat.le_refl _), List.take_length]
  have hS : sumAt (rcE e l q k body ++ t) = sumW (rcA e l q k body) := by
    unfold sumAt
    rw [hE, eS2, ← List.append_assoc, List.take_append_of_le_length (by rw [List.length_append, hW]; exact Nat.le_refl _), List.take_of_length_le (by rw [List.length_append, hW]; exact Nat.le_refl _), List.drop_append_of_le_length (Nat.le_refl _), List.drop_length]
    rfl
  have hD : (rcA e l q k body).drop 24 = mk body 32 0 := by
    unfold rcA
    rw [List.drop_append_of_le_length (by rw [lH]; exact Nat.le_refl _), List.drop_eq_nil_of_le (by rw [lH]; exact Nat.le_refl _)]; rfl
  have hB : rbodyOf (rcE e l q k body ++ t) = body := by
    unfold rbodyOf
    rw [hT, hD, hN, pl_mk _ _ _ _ (Nat.le_refl _)]
    unfold padTo
    rw [List.take_append_of_le_length (Nat.le_refl _), List.take_length]
  have hb : beginsP (rcE e l q k body ++ t) := by rw [eS]; exact begins_of hk hn
  unfold rdec
  rw [if_neg, if_neg, if_neg, hB]
  · obtain ⟨s0, s1, s2⟩ := st_of (k := k) (n := body.length) (r := mk body 32 0 ++ (sumW (rcA e l q k body) ++ t)) he hl hq
    rw [← eS] at s0 s1 s2
    rw [s0, s1, s2, eS, k_of]
  · rw [hT, hS]; exact fun h => h rfl
  · rw [hB, hT, hD, hS, sumW_pl]
    rintro (h | h)
    · exact h rfl
    · exact h rfl
  · rintro (h | h | h)
    · rw [eS, List.length_append, lH] at h; omega
    · exact h hb
    · rw [hE, eS2, List.length_append, List.length_append, hW] at h; omega
end Go.Gb
namespace Go.Gb
open Go.Proofs IntWalk

/-! ## wakes, RecFollows -/

theorem rcE_length (e l q : Nat) (k : UInt8) (body : List UInt8) : (rcE e l q k body).length = 8 * ((body.length + 6) / 7) + 32 := by
  unfold rcE
  rw [List.length_append, rcA_length, sumW_length]; omega

theorem follows.c {a0 a1 a2 b0 b1 b2 : Int} {h : Heap} {Q : Value → Heap → Prop} (h2 : 0 ≤ b2 ∧ b2 ≤ 4294967295) (g2 : 0 ≤ a2 ∧ a2 ≤ 4294967295) (hq : Q (.bool (decide (a0 = b0 ∧ b1 ≤ a1 ∧ a2 = b2 + 1))) h) :
    C Tryd.prog 28 #[.agg #[.int .u32 a0, .int .u32 a1, .int .u32 a2], .agg #[.int .u32 b0, .int .u32 b1, .int .u32 b2]] h Q := by
  have no : ¬ (a0 = b0 ∧ b1 ≤ a1 ∧ a2 = b2 + 1) → Q (.bool false) h := fun hn => by rw [decide_eq_false hn] at hq; exact hq
  refine rec_Stamp_Follows.ok (xsIf_intro (fun e1 => xsIf_intro (fun e2 => xsIf_intro (fun e3 => ?_) fun e3 => no ?_) fun e2 => no ?_) fun e1 => no ?_)
  · have e1 := of_decide_eq_true e1
    have e2 := of_decide_eq_true e2
    have e3 := of_decide_eq_true e3
    have hw : IntKind.u32.wrap (b2 + 1) = b2 + 1 := by
      simp only [IntKind.wrap]
      simp (config := { decide := true }) [IntKind.bits, IntKind.signed]
      omega
    rw [hw]
    have : decide (a2 = b2 + 1) = decide (a0 = b0 ∧ b1 ≤ a1 ∧ a2 = b2 + 1) := by
      rw [Bool.eq_iff_iff, decide_eq_true_eq, decide_eq_true_eq]
      exact ⟨fun h => ⟨e1, e2, h⟩, fun h => h.2.2⟩
    rw [this]; exact hq
  · have e3 : b2 = 4294967295 := Classical.byContradiction fun h => of_decide_eq_false e3 h
    rintro ⟨_, _, h⟩; omega
  · exact fun h => of_decide_eq_false e2 h.2.1
  · exact fun h => of_decide_eq_false e1 h.1

theorem wakes12.c {h : Heap} {Q : Value → Heap → Prop} (hq : ∀ h', Part h h' → Q (.bool true) h') : C Tryd.prog 23 #[] h Q := by
  have hR : rcR 1 0 2 5 [] = (rcE 1 0 2 5 [], 0) := if_pos ⟨by decide, by decide⟩
  have hl := rcE_length 1 0 2 5 []
  refine gabionlaw12_wakes.ok (encode.c (e := 1) (l := 0) (q := 2) (k := 5) (body := []) (by decide) (by decide) (by decide) (by decide) fun g p => ?_)
  rw [hR]
  refine ⟨_, _, rfl, by rw [mkB_size, hl]; decide, ?_⟩
  rw [show ({ data := #[UInt8.ofNat 109, UInt8.ofNat 111, UInt8.ofNat 114, UInt8.ofNat 101] } : ByteArray) = mkB [109, 111, 114, 101] from rfl]
  show C Tryd.prog 26 #[.string (mkB (rcE 1 0 2 5 []) ++ mkB [109, 111, 114, 101])] g _
  rw [mkB_append]
  refine decode.c (by rw [List.length_append, hl]; decide) fun g2 p2 => ?_
  rw [rdec_back (by decide) (by decide) (by decide) (by decide) (by decide)]
  refine ⟨_, _, _, _, _, _, rfl, xsIf_t rfl (xsIf_t (by show decide (((mkB (rcE 1 0 2 5 [])).size : Int) = 32) = true; rw [mkB_size, hl]; rfl) ?_)⟩
  refine size.c (k := 5) (body := []) (by decide) ⟨_, rfl, xsIf_t (by decide) (xsIf_t rfl (xsIf_t (by decide) (xsIf_t (by decide) ?_)))⟩
  exact follows.c (by decide) (by decide) ⟨_, rfl, hq g2 (p.trans p2)⟩

theorem list3 {l : List Int} (h : l.length = 3) : ∃ a b c, l = [a, b, c] := by
  match l, h with
  | [a, b, c], _ => exact ⟨a, b, c, rfl⟩

theorem u32_range {x : Int} (h : IntKind.u32.min ≤ x ∧ x ≤ IntKind.u32.max) : 0 ≤ x ∧ x ≤ 4294967295 := h

end Go.Gb
namespace Go.Gb
open Go.Proofs IntWalk

/-! ## The marks of a record's words (no program in sight) -/

end Go.Gb
namespace Go.Gb
open Go.Proofs IntWalk

/-! ## RecWords -/

section
variable {h0 : Heap} {pick : Int} {A B : List UInt8}

abbrev okQ (h0 : Heap) : Value → Heap → Prop := fun v h' => v = .bool true ∧ Part h0 h'

end

theorem cutTake (s : ByteArray) (hs : s.size ≤ 140737488351232) (n : Nat) (hn : n ≤ 100000) : sext s 0 (imin (s.size : Int) n) = mkB (s.data.toList.take n) := by
  obtain ⟨m, hm⟩ : ∃ m : Nat, imin (s.size : Int) n = m := ⟨(imin (s.size : Int) n).toNat, by rw [imin_eq]; omega⟩
  rw [hm]
  have := sext_mk s (a := 0) (b := m)
  rw [List.drop_zero] at this
  rw [show sext s 0 (m : Int) = _ from this]
  congr 1
  rw [imin_eq] at hm
  by_cases h : n ≤ s.size
  · have : m = n := by omega
    rw [this]
  · rw [List.take_of_length_le (by rw [bytes_len]; omega), List.take_of_length_le (by rw [bytes_len]; omega)]

end Go.Gb
namespace Go.Gb
open Go.Proofs IntWalk

/-! ## RecBack -/

end Go.Gb
namespace Go.Gb
open Go.Proofs IntWalk

/-! ## The document's Decode says the same (no program in sight) -/

open Classical in
noncomputable def rdec2 (s : List UInt8) : Rd :=
  if s.length < 24 ∨ 1024 < nOf s ∨ s.length < endOf s + 8 ∨ kOf s = 0 then dnone 4
  else if rcA (stOf s 0) (stOf s 1) (stOf s 2) (kOf s) (rbodyOf s) ≠ s.take (endOf s) ∨ (sumAt s).drop 4 ≠ [0, 0, 0, 48] then dnone 4
  else if rcE (stOf s 0) (stOf s 1) (stOf s 2) (kOf s) (rbodyOf s) ≠ s.take (endOf s + 8) then dnone 5
  else (stOf s 0, stOf s 1, stOf s 2, kOf s, rbodyOf s, 0)

theorem list8 {w : List UInt8} (h : w.length = 8) : mk ((pl w).take 4) 48 0 = w ↔ w.drop 4 = [0, 0, 0, 48] := by
  match w, h with
  | [a, b, c, d, e, f, g, x], _ =>
    show [a, b, c, d, 0, 0, 0, 48] = [a, b, c, d, e, f, g, x] ↔ [e, f, g, x] = [0, 0, 0, 48]
    simp
    constructor
    · rintro ⟨h1, h2, h3, h4⟩; exact ⟨h1.symm, h2.symm, h3.symm, h4.symm⟩
    · rintro ⟨h1, h2, h3, h4⟩; exact ⟨h1.symm, h2.symm, h3.symm, h4.symm⟩

theorem getput_list {x : List UInt8} {k : Nat} (h : x.length = k) : putL (getL x) k = x := by subst h; exact putL_get x

theorem head_of {s : List UInt8} (h : 24 ≤ s.length) : headL (stOf s 0) (stOf s 1) (stOf s 2) (kOf s) (nOf s) = (hdOf s).take 15 := by
  have hl := hd_len h
  unfold headL stOf kOf nOf
  generalize hdOf s = x at hl ⊢
  rw [getput_list (by rw [List.length_take]; omega), getput_list (by rw [List.length_take, List.length_drop]; omega), getput_list (by rw [List.length_take, List.length_drop]; omega), getput_list (by rw [List.length_take, List.length_drop]; omega)]
  match x, hl with
  | [x0, x1, x2, x3, x4, x5, x6, x7, x8, x9, x10, x11, x12, x13, x14, x15, x16, x17, x18, x19, x20], _ => rfl

theorem body_len {s : List UInt8} (h : endOf s + 8 ≤ s.length) : (rbodyOf s).length = nOf s := by
  have hE : endOf s = 24 + 8 * ((nOf s + 6) / 7) := rfl
  unfold rbodyOf
  rw [List.length_take, pl_length _ _ (Nat.le_refl _), List.length_drop, List.length_take]
  omega

theorem zeros_of {l : List UInt8} (h : l.length = 6) : l = List.replicate 6 0 ↔ allZ l := by
  unfold allZ
  rw [List.eq_replicate_iff]
  exact ⟨fun x => x.2, fun x => ⟨h, x⟩⟩

theorem firstw_of {s : List UInt8} (h : 24 ≤ s.length) : mk ((hdOf s).take 15 ++ List.replicate 6 0) 17 1 = s.take 24 ↔ mk (hdOf s) 17 1 = s.take 24 ∧ allZ ((hdOf s).drop 15) := by
  have hl := hd_len h
  have hd : ((hdOf s).drop 15).length = 6 := by rw [List.length_drop]; omega
  constructor
  · intro e
    have e2 := congrArg pl e
    have l21 : ((hdOf s).take 15 ++ List.replicate 6 (0 : UInt8)).length = 21 := by rw [List.length_append, List.length_take, List.length_replicate]; omega
    rw [pl_mk _ _ _ _ (Nat.le_refl _), pad21 l21] at e2
    have e3 : (hdOf s).take 15 ++ List.replicate 6 0 = hdOf s := e2
    refine ⟨by rw [← e3]; rw [e3] at e ⊢; exact e, ?_⟩
    rw [← zeros_of hd]
    have := congrArg (List.drop 15) e3
    rw [List.drop_append_of_le_length (by rw [List.length_take]; omega), List.drop_eq_nil_of_le (by rw [List.length_take]; omega)] at this
    exact this.symm
  · rintro ⟨h1, h2⟩
    rw [← (zeros_of hd).2 h2, List.take_append_drop]; exact h1

theorem A_of {s : List UInt8} (h24 : 24 ≤ s.length) (hE8 : endOf s + 8 ≤ s.length) :
    rcA (stOf s 0) (stOf s 1) (stOf s 2) (kOf s) (rbodyOf s) = s.take (endOf s) ↔ (mk (hdOf s) 17 1 = s.take 24 ∧ allZ ((hdOf s).drop 15)) ∧ mk (rbodyOf s) 32 0 = (s.take (endOf s)).drop 24 := by
  have hE : endOf s = 24 + 8 * ((nOf s + 6) / 7) := rfl
  have hl := hd_len h24
  unfold rcA
  rw [body_len hE8, head_of h24, ← firstw_of h24]
  have l1 : (mk ((hdOf s).take 15 ++ List.replicate 6 0) 17 1).length = 24 := by
    rw [mk_length _ _ _ _ (Nat.le_refl _), List.length_append, List.length_take, List.length_replicate, hl]
    rfl
  have e1 : s.take (endOf s) = s.take 24 ++ (s.take (endOf s)).drop 24 := by
    have := (List.take_append_drop 24 (s.take (endOf s))).symm
    rw [List.take_take, Nat.min_eq_left (by omega)] at this
    exact this
  constructor
  · intro e
    rw [e1] at e
    exact List.append_inj e (by rw [l1, List.length_take]; omega)
  · rintro ⟨h1, h2⟩
    rw [h1, h2, ← e1]

theorem rdec2_eq (s : List UInt8) : rdec2 s = rdec s := by
  unfold rdec2 rdec
  by_cases h24 : s.length < 24
  · rw [if_pos (.inl h24), if_pos (.inl h24)]
  by_cases hE8 : s.length < endOf s + 8
  · rw [if_pos (.inr (.inr (.inl hE8))), if_pos (.inr (.inr hE8))]
  have h24 : 24 ≤ s.length := by omega
  have hE8 : endOf s + 8 ≤ s.length := by omega
  by_cases hn : 1024 < nOf s
  · rw [if_pos (.inr (.inl hn)), if_pos (.inr (.inl fun hb => by have := hb.2.2.2; omega))]
  by_cases hk : kOf s = 0
  · rw [if_pos (.inr (.inr (.inr hk))), if_pos (.inr (.inl fun hb => hb.2.2.1 hk))]
  rw [if_neg (by rintro (h | h | h | h) <;> first | omega | exact hk h)]
  have hA := A_of h24 hE8
  have ls : (sumAt s).length = 8 := by unfold sumAt; rw [List.length_drop, List.length_take]; omega
  have h8 := list8 ls
  have hb : beginsP s ↔ (mk (hdOf s) 17 1 = s.take 24 ∧ allZ ((hdOf s).drop 15)) := ⟨fun h => ⟨h.1, h.2.1⟩, fun h => ⟨h.1, h.2, hk, by omega⟩⟩
  by_cases hbg : beginsP s
  · rw [if_neg (c := s.length < 24 ∨ ¬ beginsP s ∨ s.length < endOf s + 8) (by rintro (h | h | h) <;> first | omega | exact h hbg)]
    have hbg' := hb.1 hbg
    by_cases hB : mk (rbodyOf s) 32 0 = (s.take (endOf s)).drop 24
    · have hAe := hA.2 ⟨hbg', hB⟩
      by_cases hS : (sumAt s).drop 4 = [0, 0, 0, 48]
      · rw [if_neg (by rintro (h | h); exact h hAe; exact h hS), if_neg (c := mk (rbodyOf s) 32 0 ≠ (s.take (endOf s)).drop 24 ∨ mk ((pl (sumAt s)).take 4) 48 0 ≠ sumAt s) (by rintro (h | h); exact h hB; exact h (h8.2 hS))]
        have key : rcE (stOf s 0) (stOf s 1) (stOf s 2) (kOf s) (rbodyOf s) = s.take (endOf s + 8) ↔ sumW (s.take (endOf s)) = sumAt s := by
          have e1 : s.take (endOf s + 8) = s.take (endOf s) ++ sumAt s := by
            have := (List.take_append_drop (endOf s) (s.take (endOf s + 8))).symm
            rw [List.take_take, Nat.min_eq_left (by omega)] at this
            exact this
          unfold rcE
          rw [hAe, e1, List.append_cancel_left_eq]
        by_cases hW : sumW (s.take (endOf s)) = sumAt s
        · rw [if_neg (fun h => h (key.2 hW)), if_neg (fun h => h hW)]
        · rw [if_pos (fun h => hW (key.1 h)), if_pos hW]
      · rw [if_pos (.inr hS), if_pos (.inr fun h => hS (h8.1 h))]
    · rw [if_pos (.inl fun h => hB (hA.1 h).2), if_pos (.inl hB)]
  · rw [if_pos (.inl fun h => hbg (hb.2 (hA.1 h).1)), if_pos (.inr (.inl hbg))]
end Go.Gb
namespace Go.Gb
open Go.Proofs IntWalk

/-! ## The document's Encode -/

theorem word7_take (s : List UInt8) (m : UInt8) : word7 (s.take 7) m = word7 s m := by
  unfold word7
  rw [List.take_take, List.length_take, Nat.min_self]
  congr 3
  omega

theorem sumW_eq (s : List UInt8) : sumW s = word7 (putL (sum32 s) 4) 48 := by
  unfold sumW
  have hl := putL_length 4 (sum32 s)
  rw [mk_cons (fun e => by rw [e] at hl; cases hl), List.drop_eq_nil_of_le (by omega), mk_nil, List.append_nil]

theorem word_L1 {h0 : Heap} {m : UInt8} {Q : Value → Heap → Prop} : ∀ (n : Nat) (s : List UInt8), s.length + n = 7 → (∀ h', Part h0 h' → Q (.string (mkB (s ++ List.replicate n 0 ++ [m]))) h') → gabionref12_word.L1 (mkB s) (m.toNat : Int) h0 Q := by
  intro n
  induction n with
  | zero =>
    intro s hs hq
    refine gabionref12_word.L1.ok (xsIf_f (by rw [mkB_size]; simp; omega) fun b hb => byte_str (upd_same _ _ _) ⟨?_, ?_⟩)
    · rw [mkB_size, mkB_size, List.length_singleton]; omega
    · rw [mkB_append]
      have := hq _ (Part.upd hb (.cells #[.int .u8 (m.toNat : Int)] 5 (0, 0)))
      rw [List.replicate_zero, List.append_nil] at this
      exact this
  | succ n ih =>
    intro s hs hq
    refine gabionref12_word.L1.ok (xsIf_t (by rw [mkB_size]; simp; omega) ⟨by rw [mkB_size]; omega, ?_⟩)
    rw [show ({ data := #[UInt8.ofNat 0] } : ByteArray) = mkB [0] from rfl, mkB_append]
    refine ih (s ++ [0]) (by rw [List.length_append, List.length_singleton]; omega) fun h' p => ?_
    have := hq h' p
    rw [List.replicate_succ] at this
    simpa [List.append_assoc] using this

theorem word.c {s : List UInt8} {m : UInt8} {h : Heap} {Q : Value → Heap → Prop} (hs : s.length ≤ 7) (hq : ∀ h', Part h h' → Q (.string (mkB (word7 s m))) h') : C Tryd.prog 41 #[.string (mkB s), .int .u8 (m.toNat : Int)] h Q :=
  gabionref12_word.ok (word_L1 (7 - s.length) s (by omega) fun h' p => by
    have := hq h' p
    unfold word7 at this
    rw [List.take_of_length_le hs, Nat.min_eq_left hs] at this
    exact this)

theorem list15 {l : List UInt8} (h : l.length = 15) : word7 (l.take 7) 17 ++ word7 ((l.take 14).drop 7) 18 ++ word7 (l.drop 14) 19 = mk (l ++ List.replicate 6 0) 17 1 := by
  match l, h with
  | [a0, a1, a2, a3, a4, a5, a6, a7, a8, a9, a10, a11, a12, a13, a14], _ => rfl

theorem rputc {n : Nat} {k : Nat} {h : Heap} {Q : Value → Heap → Prop} (hk : k ≤ 8) (hn : n < 18446744073709551616) (hq : Q (.string (mkB (putL n k))) h) : C Tryd.prog 40 #[.int .u64 (n : Int), .int .i64 (k : Int)] h Q := by
  refine gabionref01_Put.c hn ?_
  have : cnt (k : Int) = k := by unfold cnt; omega
  rw [this]; exact hq

theorem sext_lst (s : List UInt8) (a b : Nat) : sext (mkB s) (a : Int) (b : Int) = mkB ((s.take b).drop a) := sext_mk (mkB s)

theorem ref15 {h0 : Heap} {e l q k : Int} {body : List UInt8} {Q : Value → Heap → Prop} (hb : body.length ≤ 1024) : ∀ (n i : Nat) (s : List UInt8) (h : Heap), body.length - i ≤ n → i ≤ body.length + 7 → s.length + 8 * ((body.length - i + 6) / 7) ≤ 3000 → Part h0 h →
    (∀ h', Part h0 h' → Q (.tuple #[.string (mkB (s ++ mk (body.drop i) 32 0 ++ sumW (s ++ mk (body.drop i) 32 0))), .int .i64 0]) h') →
    gabionref12_Encode.L15 (mkB s) (i : Int) [.int .u32 e, .int .u32 l, .int .u32 q, .int .u8 k, .string (mkB body)] h Q := by
  have fin : ∀ (i : Nat) (s : List UInt8) (h : Heap), body.length ≤ i → s.length ≤ 3000 → Part h0 h →
      (∀ h', Part h0 h' → Q (.tuple #[.string (mkB (s ++ mk (body.drop i) 32 0 ++ sumW (s ++ mk (body.drop i) 32 0))), .int .i64 0]) h') →
      gabionref12_Encode.L15 (mkB s) (i : Int) [.int .u32 e, .int .u32 l, .int .u32 q, .int .u8 k, .string (mkB body)] h Q := by
    intro i s h hi hs hP hq
    rw [List.drop_eq_nil_of_le hi, mk_nil, List.append_nil] at hq
    refine gabionref12_Encode.L15.ok ⟨mkB body, rfl, xsIf_f (by rw [mkB_size]; simp; omega) (gabionref02_Sum32.c (by rw [mkB_size]; omega) fun h1 p1 => ⟨_, rfl, ?_⟩)⟩
    have h32 := sum32_lt s
    refine rputc (n := sum32 s) (k := 4) (by decide) (by omega) ⟨_, rfl, ?_⟩
    refine word.c (m := 48) (by rw [putL_length]; decide) fun h2 p2 => ⟨_, rfl, ?_⟩
    rw [← sumW_eq, mkB_append]
    refine ⟨by rw [mkB_size, mkB_size, sumW_length]; omega, hq h2 ((hP.trans p1).trans p2)⟩
  intro n
  induction n with
  | zero =>
    intro i s h hi _ hs hP hq
    exact fin i s h (by omega) (by omega) hP hq
  | succ n ih =>
    intro i s h hi hi7 hs hP hq
    by_cases hlt : i < body.length
    · have hne : body.drop i ≠ [] := fun e => by have := congrArg List.length e; rw [List.length_drop] at this; simp at this; omega
      rw [mk_cons hne, List.drop_drop] at hq
      have key : ∀ tt : Nat, tt = min body.length (i + 7) → gabionref12_Encode.J20 (mkB s) (i : Int) (tt : Int) [.int .u32 e, .int .u32 l, .int .u32 q, .int .u8 k, .string (mkB body)] h Q := by
        intro tt ht
        refine gabionref12_Encode.J20.ok ⟨mkB body, rfl, ⟨by omega, by rw [mkB_size]; omega⟩, ⟨by omega, by omega⟩, ?_⟩
        rw [sext_lst]
        have ew : (body.take tt).drop i = (body.drop i).take 7 := by
          rw [List.take_drop]
          by_cases h7 : i + 7 ≤ body.length
          · rw [ht, Nat.min_eq_right h7]
          · rw [ht, Nat.min_eq_left (by omega), List.take_of_length_le (Nat.le_refl _), List.take_of_length_le (by omega)]
        rw [ew]
        refine word.c (m := 32) (by rw [List.length_take]; omega) fun h1 p1 => ⟨_, rfl, ?_⟩
        rw [word7_take, mkB_append, i64_in _ (by omega)]
        have hwl := word7_length (body.drop i) 32
        refine ⟨by rw [mkB_size, mkB_size, hwl]; omega, ih (i + 7) _ h1 (by omega) (by omega) ?_ (hP.trans p1) fun h' p => ?_⟩
        · rw [List.length_append, hwl]
          have : 8 * ((body.length - i + 6) / 7) ≥ 8 + 8 * ((body.length - (i + 7) + 6) / 7) := by omega
          omega
        · have := hq h' p
          rw [show (32 : UInt8) + 0 = 32 from rfl, ← List.append_assoc] at this
          exact this
      refine gabionref12_Encode.L15.ok ⟨mkB body, rfl, xsIf_t (by rw [mkB_size]; simp; omega) ⟨mkB body, rfl, ?_⟩⟩
      rw [i64_in ((i : Int) + 7) (by omega)]
      refine xsIf_intro (fun h7 => ⟨mkB body, rfl, ?_⟩) fun h7 => ?_
      · have h7 : ((mkB body).size : Int) < (i : Int) + 7 := by simpa using h7
        rw [mkB_size] at h7 ⊢
        exact key body.length (by omega)
      · have h7 : ¬ ((mkB body).size : Int) < (i : Int) + 7 := by simpa using h7
        rw [mkB_size] at h7
        exact key (i + 7) (by omega)
    · exact fin i s h (by omega) (by omega) hP hq

theorem ref_Encode.c {e l q : Nat} {k : UInt8} {body : List UInt8} {h : Heap} {Q : Value → Heap → Prop} (he : e < 4294967296) (hl : l < 4294967296) (hqq : q < 4294967296)
    (hq : ∀ h', Part h h' → Q (.tuple #[.string (mkB (rcR e l q k body).1), .int .i64 (rcR e l q k body).2]) h') :
    C Tryd.prog 22 #[.agg #[.int .u32 (e : Int), .int .u32 (l : Int), .int .u32 (q : Int), .int .u8 (k.toNat : Int), .string (mkB body)]] h Q := by
  have h0 : ((k.toNat : Int) = 0) ↔ k = 0 := by
    rw [← UInt8.toNat_inj]; show _ ↔ k.toNat = 0; omega
  have no : ¬ (k ≠ 0 ∧ body.length ≤ 1024) → Q (.tuple #[.string ⟨#[]⟩, .int .i64 2]) h := fun hr => by
    have := hq h (Part.refl _)
    unfold rcR at this
    rw [if_neg hr] at this; exact this
  refine gabionref12_Encode.ok ⟨(k.toNat : Int), rfl, xsIf_intro (fun e1 => no ?_) fun e1 => ⟨mkB body, rfl, xsIf_intro (fun e2 => no ?_) fun e2 => ?_⟩⟩
  · have e1 : (k.toNat : Int) = 0 := by simpa using e1
    exact fun h => h.1 (h0.1 e1)
  · have e2 : (1024 : Int) < (mkB body).size := by simpa using e2
    rw [mkB_size] at e2
    exact fun h => by omega
  have e1 : k ≠ 0 := fun h => by rw [decide_eq_false_iff_not] at e1; exact e1 (h0.2 h)
  have e2 : body.length ≤ 1024 := by
    have : ¬ (1024 : Int) < (mkB body).size := by simpa using e2
    rw [mkB_size] at this; omega
  have hE : rcR e l q k body = (rcE e l q k body, 0) := if_pos ⟨e1, e2⟩
  rw [hE] at hq
  refine gabionref12_Encode.J3.ok ⟨mkB body, rfl, ?_⟩
  rw [mkB_size, u64_nat' (by omega)]
  refine rputc (k := 2) (by decide) (by omega) ⟨_, rfl, (k.toNat : Int), rfl, fun b hb => byte_str (upd_same _ _ _) ⟨by rw [mkB_size, mkB_size, putL_length, List.length_singleton]; decide, ?_⟩⟩
  have hP : Part h (upd h b (.cells #[.int .u8 (k.toNat : Int)] 5 (0, 0))) := Part.upd hb _
  show gabionref12_Encode.L6 _ 0 _ (upd h b (.cells #[.int .u8 (k.toNat : Int)] 5 (0, 0))) Q
  generalize upd h b (.cells #[.int .u8 (k.toNat : Int)] 5 (0, 0)) = g at hP
  rw [mkB_append]
  refine gabionref12_Encode.L6.ok (xsIf_t (by decide) ⟨by decide, (e : Int), rfl, ?_⟩)
  rw [u64_nat' (show e < 18446744073709551616 by omega)]
  refine rputc (k := 4) (by decide) (by omega) ⟨_, rfl, by rw [mkB_size, mkB_size]; simp [putL_length], ?_⟩
  rw [mkB_append]
  refine gabionref12_Encode.L6.ok (xsIf_t (by decide) ⟨by decide, (l : Int), rfl, ?_⟩)
  rw [u64_nat' (show l < 18446744073709551616 by omega)]
  refine rputc (k := 4) (by decide) (by omega) ⟨_, rfl, by rw [mkB_size, mkB_size]; simp [putL_length], ?_⟩
  rw [mkB_append]
  refine gabionref12_Encode.L6.ok (xsIf_t (by decide) ⟨by decide, (q : Int), rfl, ?_⟩)
  rw [u64_nat' (show q < 18446744073709551616 by omega)]
  refine rputc (k := 4) (by decide) (by omega) ⟨_, rfl, by rw [mkB_size, mkB_size]; simp [putL_length], ?_⟩
  rw [mkB_append, show putL body.length 2 ++ [k] ++ putL e 4 ++ putL l 4 ++ putL q 4 = headL e l q k body.length from rfl]
  have h15 := headL_length e l q k body.length
  refine gabionref12_Encode.L6.ok (xsIf_f (by decide) ?_)
  rw [mkB_size, h15]
  have s1 : sext (mkB (headL e l q k body.length)) 0 7 = mkB ((headL e l q k body.length).take 7) := sext_lst _ 0 7
  have s2 : sext (mkB (headL e l q k body.length)) 7 14 = mkB (((headL e l q k body.length).take 14).drop 7) := sext_lst _ 7 14
  have s3 : sext (mkB (headL e l q k body.length)) 14 ((15 : Nat) : Int) = mkB ((headL e l q k body.length).drop 14) := by
    have := sext_lst (headL e l q k body.length) 14 15
    rw [List.take_of_length_le (by omega)] at this; exact this
  rw [s1, s2, s3]
  refine ⟨by decide, word.c (m := 17) (by rw [List.length_take]; omega) fun h1 p1 => ⟨_, rfl, by decide, by decide, word.c (m := 18) (by simp; omega) fun h2 p2 => ⟨_, rfl, by decide, word.c (m := 19) (by simp; omega) fun h3 p3 => ⟨_, rfl, ?_, ?_, ?_⟩⟩⟩⟩
  · rw [mkB_size, mkB_size, word7_length, word7_length]; decide
  · rw [mkB_append, mkB_size, mkB_size, List.length_append, word7_length, word7_length, word7_length]; decide
  · rw [mkB_append, mkB_append, list15 h15]
    have l1 : (mk (headL e l q k body.length ++ List.replicate 6 0) 17 1).length = 24 := by rw [mk_length _ _ _ _ (Nat.le_refl _), List.length_append, h15]; simp
    refine ref15 e2 body.length 0 _ h3 (by omega) (by omega) (by rw [l1]; omega) (((hP.trans p1).trans p2).trans p3) fun h' p => ?_
    rw [List.drop_zero]
    exact hq h' p
end Go.Gb
namespace Go.Gb
open Go.Proofs IntWalk

/-! ## gabionref12.Decode -/

def rdV2 (r : Rd) : Value := .tuple #[.agg #[.int .u32 (r.1 : Nat), .int .u32 (r.2.1 : Nat), .int .u32 (r.2.2.1 : Nat), .int .u8 (r.2.2.2.1.toNat : Int), .string (mkB r.2.2.2.2.1)], .int .i64 r.2.2.2.2.2]

theorem hd_eq {s : List UInt8} (h : 24 ≤ s.length) : s.take 7 ++ (s.take 15).drop 8 ++ (s.take 23).drop 16 = hdOf s := by
  unfold hdOf
  have l24 : (s.take 24).length = 24 := by rw [List.length_take]; omega
  rw [pl_cons (by omega), pl_cons (by rw [List.length_drop]; omega), pl_cons (by rw [List.length_drop, List.length_drop]; omega), pl_short (by rw [List.length_drop, List.length_drop, List.length_drop]; omega)]
  rw [List.append_nil, List.drop_drop, List.take_take, List.take_drop, List.take_drop, List.take_take, List.take_take, List.append_assoc]
  rfl

theorem pl_get : ∀ (n : Nat) (t : List UInt8) (i : Nat), t.length ≤ n → i < 7 * (t.length / 8) → (pl t)[i]? = t[8 * (i / 7) + i % 7]?
  | 0, t, i, h, hi => by omega
  | n + 1, t, i, h, hi => by
    have h8 : 8 ≤ t.length := by omega
    rw [pl_cons h8]
    have lt7 : (t.take 7).length = 7 := by rw [List.length_take]; omega
    by_cases h7 : i < 7
    · rw [List.getElem?_append_left (by omega), List.getElem?_take, if_pos h7]
      congr 1; omega
    · rw [List.getElem?_append_right (by omega), lt7, pl_get n (t.drop 8) (i - 7) (by rw [List.length_drop]; omega) (by rw [List.length_drop]; omega), List.getElem?_drop]
      congr 1; omega

theorem n_bytes {s : List UInt8} (h : 24 ≤ s.length) : nOf s = ((hdOf s).getD 0 0).toNat + 256 * ((hdOf s).getD 1 0).toNat := by
  have hl := hd_len h
  unfold nOf
  generalize hdOf s = x at hl
  match x, hl with
  | [x0, x1, x2, x3, x4, x5, x6, x7, x8, x9, x10, x11, x12, x13, x14, x15, x16, x17, x18, x19, x20], _ => rfl

theorem bget_D {l : List UInt8} {i : Nat} (h : i < l.length) : bget (mkB l) i = some (l.getD i 0) := by
  rw [bget_mk _ h, List.getD_eq_getElem?_getD, List.getElem?_eq_getElem h]; rfl

theorem body_get {s : List UInt8} (h : endOf s + 8 ≤ s.length) {i : Nat} (hi : i < nOf s) : (rbodyOf s)[i]? = s[24 + 8 * (i / 7) + i % 7]? := by
  have hE : endOf s = 24 + 8 * ((nOf s + 6) / 7) := rfl
  unfold rbodyOf
  have ld : ((s.take (endOf s)).drop 24).length = 8 * ((nOf s + 6) / 7) := by rw [List.length_drop, List.length_take]; omega
  rw [List.getElem?_take, if_pos hi, pl_get _ _ _ (Nat.le_refl _) (by rw [ld]; omega), List.getElem?_drop, List.getElem?_take, if_pos (by omega), Nat.add_assoc]

section
variable {s : List UInt8} {h0 : Heap} {Q : Value → Heap → Prop}

theorem ref18 (h24 : 24 ≤ s.length) (hs : s.length ≤ 5000) (hn : nOf s ≤ 1024) (hE8 : endOf s + 8 ≤ s.length) (hq : ∀ h', Part h0 h' → Q (rdV2 (rdec s)) h') :
    ∀ (n i : Nat) (h : Heap), i + n = nOf s → Part h0 h →
      gabionref12_Decode.L18 (mkB s) (nOf s : Int) ((endOf s + 8 : Nat) : Int) (i : Int) 0 0 0 0 ⟨#[]⟩ 0 0 0 0 ⟨#[]⟩
        [.int .u32 (stOf s 0 : Nat), .int .u32 (stOf s 1 : Nat), .int .u32 (stOf s 2 : Nat), .int .u8 ((kOf s).toNat : Int), .string (mkB ((rbodyOf s).take i))] h Q := by
  have hE : endOf s = 24 + 8 * ((nOf s + 6) / 7) := rfl
  have lb := body_len hE8
  rw [← rdec2_eq] at hq
  have hnot : kOf s ≠ 0 → ¬ (s.length < 24 ∨ 1024 < nOf s ∨ s.length < endOf s + 8 ∨ kOf s = 0) := by
    rintro hk (h | h | h | h)
    · omega
    · omega
    · omega
    · exact hk h
  intro n
  induction n with
  | zero =>
    intro i h hi hP
    have : i = nOf s := by omega
    subst this
    rw [List.take_of_length_le (by omega)]
    refine gabionref12_Decode.L18.ok (xsIf_f (decide_eq_false (by omega)) ⟨Nat.le_refl 5, _, rfl, _, rfl, _, rfl, _, rfl, _, rfl, ?_⟩)
    refine ref_Encode.c (stOf_lt s 0) (stOf_lt s 1) (stOf_lt s 2) fun g p => ⟨_, _, rfl, ?_⟩
    have hP := hP.trans p
    by_cases hk : kOf s = 0
    · have hR : rcR (stOf s 0) (stOf s 1) (stOf s 2) (kOf s) (rbodyOf s) = ([], 2) := if_neg fun h => h.1 hk
      rw [hR]
      have := hq g hP
      unfold rdec2 at this
      rw [if_pos (.inr (.inr (.inr hk)))] at this
      exact xsIf_t rfl this
    have hR : rcR (stOf s 0) (stOf s 1) (stOf s 2) (kOf s) (rbodyOf s) = (rcE (stOf s 0) (stOf s 1) (stOf s 2) (kOf s) (rbodyOf s), 0) := if_pos ⟨hk, by omega⟩
    rw [hR]
    have lA := rcA_length (stOf s 0) (stOf s 1) (stOf s 2) (kOf s) (rbodyOf s)
    have lE := rcE_length (stOf s 0) (stOf s 1) (stOf s 2) (kOf s) (rbodyOf s)
    have lW := sumW_length (rcA (stOf s 0) (stOf s 1) (stOf s 2) (kOf s) (rbodyOf s))
    rw [lb] at lA lE
    have e8 : IntKind.i64.wrap (((endOf s + 8 : Nat) : Int) - 8) = ((endOf s : Nat) : Int) := by rw [i64_in _ (by omega)]; omega
    have e4 : IntKind.i64.wrap (((endOf s + 8 : Nat) : Int) - 4) = ((endOf s + 4 : Nat) : Int) := by rw [i64_in _ (by omega)]; omega
    rw [e8, e4]
    dsimp only
    rw [mkB_size, mkB_size, lE]
    have t1 : sext (mkB (rcE (stOf s 0) (stOf s 1) (stOf s 2) (kOf s) (rbodyOf s))) 0 ((endOf s : Nat) : Int) = mkB (rcA (stOf s 0) (stOf s 1) (stOf s 2) (kOf s) (rbodyOf s)) := by
      rw [show sext (mkB (rcE (stOf s 0) (stOf s 1) (stOf s 2) (kOf s) (rbodyOf s))) 0 ((endOf s : Nat) : Int) = mkB ((rcE (stOf s 0) (stOf s 1) (stOf s 2) (kOf s) (rbodyOf s)).take (endOf s)) from sext_mk (mkB _) (a := 0)]
      unfold rcE
      rw [List.take_append_of_le_length (by omega), List.take_of_length_le (by omega)]
    have t2 : sext (mkB s) 0 ((endOf s : Nat) : Int) = mkB (s.take (endOf s)) := sext_mk (mkB s) (a := 0)
    have t3 : sext (mkB (rcE (stOf s 0) (stOf s 1) (stOf s 2) (kOf s) (rbodyOf s))) ((endOf s + 4 : Nat) : Int) ((8 * ((nOf s + 6) / 7) + 32 : Nat) : Int) = mkB [0, 0, 0, 48] := by
      rw [sext_mk]
      show mkB (((rcE (stOf s 0) (stOf s 1) (stOf s 2) (kOf s) (rbodyOf s)).take (8 * ((nOf s + 6) / 7) + 32)).drop (endOf s + 4)) = _
      rw [List.take_of_length_le (by omega)]
      unfold rcE
      rw [List.drop_append, List.drop_eq_nil_of_le (by omega), List.nil_append, show endOf s + 4 - (rcA (stOf s 0) (stOf s 1) (stOf s 2) (kOf s) (rbodyOf s)).length = 4 by omega]
      rw [(list8 lW).1 (by rw [sumW_pl]; rfl)]
    have t4 : sext (mkB s) ((endOf s + 4 : Nat) : Int) ((endOf s + 8 : Nat) : Int) = mkB ((sumAt s).drop 4) := by
      rw [sext_mk]
      show mkB ((s.take (endOf s + 8)).drop (endOf s + 4)) = _
      unfold sumAt
      rw [List.drop_drop]
    have t5 : sext (mkB s) 0 ((endOf s + 8 : Nat) : Int) = mkB (s.take (endOf s + 8)) := sext_mk (mkB s) (a := 0)
    rw [t1, t2, t3, t4, t5]
    refine xsIf_f rfl ⟨⟨by omega, by omega⟩, ⟨by omega, by omega⟩, xsIf_intro (fun d1 => ?_) fun d1 => ⟨⟨by omega, by omega⟩, ⟨by omega, by omega⟩, ⟨by omega, by omega⟩, xsIf_intro (fun d2 => ?_) fun d2 => ⟨⟨by omega, by omega⟩, xsIf_intro (fun d3 => ?_) fun d3 => ⟨Nat.le_refl 5, _, rfl, _, rfl, _, rfl, _, rfl, _, rfl, ?_⟩⟩⟩⟩
    · have d1 := of_decide_eq_true d1
      have := hq g hP
      unfold rdec2 at this
      rw [if_neg (hnot hk), if_pos (.inl fun h => d1 (by rw [h]))] at this
      exact this
    · have d2 := of_decide_eq_true d2
      have := hq g hP
      unfold rdec2 at this
      rw [if_neg (hnot hk), if_pos (.inr fun h => d2 (by rw [h]))] at this
      exact this
    · have d1 : mkB _ = mkB _ := Classical.byContradiction fun h => of_decide_eq_false d1 h
      have d2 : mkB _ = mkB _ := Classical.byContradiction fun h => of_decide_eq_false d2 h
      have d3 := of_decide_eq_true d3
      have := hq g hP
      unfold rdec2 at this
      rw [if_neg (hnot hk), if_neg (by rintro (h | h); exact h ((mkB_inj _ _).1 d1); exact h ((mkB_inj _ _).1 d2).symm), if_pos (fun h => d3 (by rw [h]))] at this
      exact this
    · have d1 : mkB _ = mkB _ := Classical.byContradiction fun h => of_decide_eq_false d1 h
      have d2 : mkB _ = mkB _ := Classical.byContradiction fun h => of_decide_eq_false d2 h
      have d3 : mkB _ = mkB _ := Classical.byContradiction fun h => of_decide_eq_false d3 h
      have := hq g hP
      unfold rdec2 at this
      rw [if_neg (hnot hk), if_neg (by rintro (h | h); exact h ((mkB_inj _ _).1 d1); exact h ((mkB_inj _ _).1 d2).symm), if_neg (fun h => h ((mkB_inj _ _).1 d3))] at this
      exact this
  | succ n ih =>
    intro i h hi hP
    have hlt : i < nOf s := by omega
    have e1 : iquo .i64 (i : Int) 7 = ((i / 7 : Nat) : Int) := by
      unfold iquo
      rw [Int.tdiv_eq_ediv_of_nonneg (by omega)]
      have : (i : Int) / 7 = ((i / 7 : Nat) : Int) := rfl
      rw [this, i64_in _ (by omega)]
    have e2 : irem (i : Int) 7 = ((i % 7 : Nat) : Int) := irem_nat i 7
    have e3 : IntKind.i64.wrap (IntKind.i64.wrap (24 + IntKind.i64.wrap (8 * ((i / 7 : Nat) : Int))) + ((i % 7 : Nat) : Int)) = ((24 + 8 * (i / 7) + i % 7 : Nat) : Int) := by
      rw [i64_in (8 * ((i / 7 : Nat) : Int)) (by omega), i64_in (24 + 8 * ((i / 7 : Nat) : Int)) (by omega), i64_in _ (by omega)]; omega
    have e4 : IntKind.i64.wrap (((24 + 8 * (i / 7) + i % 7 : Nat) : Int) + 1) = ((24 + 8 * (i / 7) + i % 7 + 1 : Nat) : Int) := by rw [i64_in _ (by omega)]; omega
    have hb := body_get hE8 hlt
    have hlt2 : 24 + 8 * (i / 7) + i % 7 < s.length := by omega
    generalize hj : 24 + 8 * (i / 7) + i % 7 = j at e3 e4 hb hlt2
    refine gabionref12_Decode.L18.ok ?_
    unfold gabionref12_Decode.L18.wp
    rw [e1, e2, e3, e4]
    have es : sext (mkB s) (j : Int) ((j + 1 : Nat) : Int) = mkB [s[j]] := by
      rw [sext_mk]
      show mkB ((s.take (j + 1)).drop j) = _
      rw [List.take_succ, List.getElem?_eq_getElem hlt2, List.drop_append_of_le_length (by rw [List.length_take]; omega), List.drop_eq_nil_of_le (by rw [List.length_take]; omega)]; rfl
    rw [es]
    refine xsIf_t (decide_eq_true (by omega)) ⟨⟨by omega, by rw [mkB_size]; omega⟩, ⟨by omega, by omega⟩, _, rfl, ?_, Nat.le_refl 5, ?_⟩
    · rw [mkB_size, mkB_size, List.length_take, List.length_singleton]; omega
    · rw [mkB_append, i64_in _ (by omega)]
      have et : (rbodyOf s).take i ++ [s[j]] = (rbodyOf s).take (i + 1) := by
        rw [List.take_succ, hb, List.getElem?_eq_getElem hlt2]; rfl
      rw [et]
      exact ih (i + 1) h (by omega) hP
end

theorem get_st {s : List UInt8} {i : Nat} {h : Heap} {Q : Value → Heap → Prop} (hs : 24 ≤ s.length) (hi : i < 3) (hq : Q (.int .u64 (stOf s i : Nat)) h) :
    C Tryd.prog 47 #[.string (sext (mkB (hdOf s)) ((3 + 4 * i : Nat) : Int) ((7 + 4 * i : Nat) : Int))] h Q := by
  have e3 : sext (mkB (hdOf s)) ((3 + 4 * i : Nat) : Int) ((7 + 4 * i : Nat) : Int) = mkB (((hdOf s).drop (3 + 4 * i)).take 4) := by
    rw [show sext (mkB (hdOf s)) ((3 + 4 * i : Nat) : Int) ((7 + 4 * i : Nat) : Int) = mkB (((hdOf s).take (7 + 4 * i)).drop (3 + 4 * i)) from sext_mk (mkB (hdOf s)), List.take_drop]
    rw [show 3 + 4 * i + 4 = 7 + 4 * i by omega]
  rw [e3]
  have e4 : get8 (mkB (((hdOf s).drop (3 + 4 * i)).take 4)) = stOf s i := by
    unfold get8 stOf
    show getL ((((hdOf s).drop (3 + 4 * i)).take 4).take 8) = _
    rw [List.take_of_length_le (by rw [List.length_take]; omega)]
  refine gabionref01_Get.c ?_
  rw [e4]; exact hq

theorem u32_st (s : List UInt8) (i : Nat) : IntKind.u32.wrap ((stOf s i : Nat) : Int) = ((stOf s i : Nat) : Int) := by
  have := stOf_lt s i
  simp only [IntKind.wrap]
  simp (config := { decide := true }) [IntKind.bits, IntKind.signed]
  omega

theorem ref_Decode.c {s : List UInt8} {h : Heap} {Q : Value → Heap → Prop} (hs : s.length ≤ 5000) (hq : ∀ h', Part h h' → Q (rdV2 (rdec s)) h') : C Tryd.prog 27 #[.string (mkB s)] h Q := by
  have no4 : ∀ g, Part h g → (s.length < 24 ∨ 1024 < nOf s ∨ s.length < endOf s + 8 ∨ kOf s = 0) → Q (rdV2 (dnone 4)) g := fun g p hc => by
    have := hq g p
    rw [← rdec2_eq] at this
    unfold rdec2 at this
    rw [if_pos hc] at this; exact this
  refine gabionref12_Decode.ok ?_
  unfold gabionref12_Decode.wp
  rw [mkB_size]
  refine xsIf_intro (fun e => no4 h (Part.refl _) (.inl (by have := of_decide_eq_true e; omega))) fun e => ?_
  have h24 : 24 ≤ s.length := by have := of_decide_eq_false e; omega
  have hl := hd_len h24
  have s1 : sext (mkB s) 0 7 = mkB (s.take 7) := sext_mk (mkB s) (a := 0) (b := 7)
  have s2 : sext (mkB s) 8 15 = mkB ((s.take 15).drop 8) := sext_mk (mkB s) (a := 8) (b := 15)
  have s3 : sext (mkB s) 16 23 = mkB ((s.take 23).drop 16) := sext_mk (mkB s) (a := 16) (b := 23)
  rw [s1, s2, s3, mkB_append, mkB_append, hd_eq h24]
  have b0 := bget_D (l := hdOf s) (i := 0) (by omega)
  have b1 := bget_D (l := hdOf s) (i := 1) (by omega)
  have b2 := bget_D (l := hdOf s) (i := 2) (by omega)
  have hn := n_bytes h24
  have hnl := nOf_lt s
  have l0 := byte_lt ((hdOf s).getD 0 0)
  have l1 := byte_lt ((hdOf s).getD 1 0)
  have en : IntKind.i64.wrap (IntKind.i64.wrap (((hdOf s).getD 0 0).toNat : Int) + IntKind.i64.wrap (256 * IntKind.i64.wrap (((hdOf s).getD 1 0).toNat : Int))) = ((nOf s : Nat) : Int) := by
    rw [i64_in (((hdOf s).getD 0 0).toNat : Int) (by omega), i64_in (((hdOf s).getD 1 0).toNat : Int) (by omega), i64_in (256 * (((hdOf s).getD 1 0).toNat : Int)) (by omega), i64_in _ (by omega)]; omega
  refine ⟨⟨by decide, by omega⟩, ⟨by decide, by omega⟩, ⟨by decide, by decide⟩, ?_, ⟨by decide, by omega⟩, ⟨by decide, by decide⟩, ?_, _, by decide, b0, _, by decide, b1, ?_⟩
  · rw [mkB_size, mkB_size, List.length_take, List.length_drop, List.length_take]; omega
  · rw [mkB_size, mkB_size, List.length_append, List.length_take, List.length_drop, List.length_take, List.length_drop, List.length_take]; omega
  rw [en]
  have hE : endOf s = 24 + 8 * ((nOf s + 6) / 7) := rfl
  refine xsIf_intro (fun e1 => no4 h (Part.refl _) (.inr (.inl (by have := of_decide_eq_true e1; omega)))) fun e1 => ?_
  have hn4 : nOf s ≤ 1024 := by have := of_decide_eq_false e1; omega
  have ez : IntKind.i64.wrap (IntKind.i64.wrap (8 * iquo .i64 (IntKind.i64.wrap (((nOf s : Nat) : Int) + 6)) 7) + 32) = ((endOf s + 8 : Nat) : Int) := by
    rw [i64_in (((nOf s : Nat) : Int) + 6) (by omega)]
    have e2 : iquo .i64 (((nOf s : Nat) : Int) + 6) 7 = (((nOf s + 6) / 7 : Nat) : Int) := by
      unfold iquo
      rw [Int.tdiv_eq_ediv_of_nonneg (by omega)]
      have : (((nOf s : Nat) : Int) + 6) / 7 = (((nOf s + 6) / 7 : Nat) : Int) := rfl
      rw [this, i64_in _ (by omega)]
    rw [e2, i64_in (8 * (((nOf s + 6) / 7 : Nat) : Int)) (by omega), i64_in _ (by omega)]; omega
  refine gabionref12_Size.ok ⟨_, rfl, ?_⟩
  rw [ez]
  refine xsIf_intro (fun e2 => no4 h (Part.refl _) (.inr (.inr (.inl (by have := of_decide_eq_true e2; omega))))) fun e2 => ⟨_, by decide, b2, Nat.le_refl 5, ?_⟩
  have hE8 : endOf s + 8 ≤ s.length := by have := of_decide_eq_false e2; omega
  show gabionref12_Decode.L13 (mkB s) (mkB (hdOf s)) (nOf s : Int) ((endOf s + 8 : Nat) : Int) 0 0 0 0 0 ⟨#[]⟩ 0 0 0 0 ⟨#[]⟩ [.int .u32 0, .int .u32 0, .int .u32 0, .int .u8 ((kOf s).toNat : Int), .string ⟨#[]⟩] h Q
  have hz : ∀ i : Nat, i < 3 → IntKind.i64.wrap (7 + IntKind.i64.wrap (4 * (i : Int))) = ((7 + 4 * i : Nat) : Int) ∧ IntKind.i64.wrap (3 + IntKind.i64.wrap (4 * (i : Int))) = ((3 + 4 * i : Nat) : Int) := fun i hi => by
    rw [i64_in (4 * (i : Int)) (by omega), i64_in (7 + 4 * (i : Int)) (by omega), i64_in (3 + 4 * (i : Int)) (by omega)]; omega
  have lh : ((mkB (hdOf s)).size : Int) = 21 := by rw [mkB_size, hl]; rfl
  have step : ∀ (i : Nat) (r0 : List Value), i < 3 → r0.length = 5 → gabionref12_Decode.L13 (mkB s) (mkB (hdOf s)) (nOf s : Int) ((endOf s + 8 : Nat) : Int) ((i + 1 : Nat) : Int) 0 0 0 0 ⟨#[]⟩ 0 0 0 0 ⟨#[]⟩ (lput r0 (0 + i * 1) [.int .u32 (stOf s i : Nat)]) h Q →
      gabionref12_Decode.L13 (mkB s) (mkB (hdOf s)) (nOf s : Int) ((endOf s + 8 : Nat) : Int) (i : Int) 0 0 0 0 ⟨#[]⟩ 0 0 0 0 ⟨#[]⟩ r0 h Q := by
    intro i r0 hi hr hk
    obtain ⟨z1, z2⟩ := hz i hi
    refine gabionref12_Decode.L13.ok ?_
    unfold gabionref12_Decode.L13.wp
    rw [z1, z2, lh]
    refine xsIf_t (decide_eq_true (by omega)) ⟨⟨by omega, by omega⟩, ⟨by omega, by omega⟩, get_st h24 hi ⟨_, rfl, ⟨by omega, by show (i : Int) < 3; omega⟩, by rw [Int.toNat_natCast]; omega, ?_⟩⟩
    rw [u32_st, Int.toNat_natCast, i64_in _ (by omega)]
    exact hk
  refine step 0 _ (by decide) rfl (step 1 _ (by decide) rfl (step 2 _ (by decide) rfl ?_))
  refine gabionref12_Decode.L13.ok (xsIf_f (by decide) ?_)
  exact ref18 (h0 := h) h24 hs hn4 hE8 hq (nOf s) 0 h (by omega) (Part.refl _)
end Go.Gb
namespace Go.Gb
open Go.Proofs IntWalk

/-! ## RecBytes -/

theorem bytes8 {h0 : Heap} {b : Nat} {X : List (List UInt8)} (hX : X.length = 4) (hs : ∀ x ∈ X, x.length ≤ 5000) : ∀ (n i : Nat) (h : Heap), i + n = 4 → Part h0 h → Blk h b (X.map fun x => Value.string (mkB x)) →
    gabionlaw12_RecBytes.L8 (some ⟨b, 0, none⟩) 4 4 4 (i : Int) h (okQ h0) := by
  intro n
  induction n with
  | zero =>
    intro i h hi hP hB
    exact gabionlaw12_RecBytes.L8.ok (xsIf_f (decide_eq_false (by omega)) ⟨rfl, hP⟩)
  | succ n ih =>
    intro i h hi hP hB
    have hlt : i < X.length := by omega
    have hx := hs _ (List.getElem_mem hlt)
    refine gabionlaw12_RecBytes.L8.ok (xsIf_t (decide_eq_true (by omega)) ⟨⟨by omega, by show (i : Int) < 4; omega⟩, b, 0, rfl, mkB X[i], ?_, decode.c hx fun g p => ⟨_, _, _, _, _, _, rfl, ref_Decode.c hx fun g2 p2 => ⟨_, _, _, _, _, _, rfl, xsIf_f (by simp) (gabionlaw12_of.ok ⟨_, _, _, rfl, xsIf_f (by simp) (xsIf_f (by simp) (xsIf_f (by simp) ?_))⟩)⟩⟩⟩)
    · rw [hB.cell, Int.toNat_natCast, Nat.zero_add, Nat.mul_one, List.getElem?_map, List.getElem?_eq_getElem hlt]; rfl
    · rw [i64_in _ (by omega)]
      obtain ⟨T, hT⟩ := hB
      exact ih (i + 1) g2 (by omega) ((hP.trans p).trans p2) ⟨T, p2 _ _ (p _ _ hT)⟩

theorem rcR_facts (e l q : Nat) (k : UInt8) (body : List UInt8) : (rcR e l q k body).1.length ≤ 3000 ∧ (decide (k ≠ 0 ∧ body.length ≤ 1024) = decide ((rcR e l q k body).2 = 0)) ∧
    (if k ≠ 0 ∧ body.length ≤ 1024 then ((8 * (3 + (body.length + 6) / 7 + 1) : Nat) : Int) else 0) = ((rcR e l q k body).1.length : Int) := by
  have hl := rcE_length e l q k body
  unfold rcR
  split
  · rename_i hc
    refine ⟨by dsimp only; omega, by simp [hc], ?_⟩
    show _ = ((rcE e l q k body).length : Int)
    rw [hl]; omega
  · rename_i hc
    exact ⟨by decide, by simp [hc], rfl⟩

theorem gabionlaw12_RecBytes.law (ns : List Int) (hnl : ns.length = 3) (hn : ∀ x ∈ ns, IntKind.u32.min ≤ x ∧ x ≤ IntKind.u32.max) (kind : Int) (hk : IntKind.u8.min ≤ kind ∧ kind ≤ IntKind.u8.max) (s : ByteArray) (hs : s.size ≤ 140737488351232) (h : Heap) :
    C Tryd.prog 7 #[.agg (ns.map (Value.int .u32)).toArray, .int .u8 kind, .string s] h fun v h' => v = .bool true ∧ Part h h' := by
  obtain ⟨n0, n1, n2, rfl⟩ := list3 hnl
  have r0 := u32_range (hn n0 (by simp)); have r1 := u32_range (hn n1 (by simp)); have r2 := u32_range (hn n2 (by simp))
  have hk : 0 ≤ kind ∧ kind ≤ 255 := hk
  obtain ⟨e, rfl⟩ : ∃ e : Nat, n0 = e := ⟨n0.toNat, by omega⟩
  obtain ⟨l, rfl⟩ : ∃ e : Nat, n1 = e := ⟨n1.toNat, by omega⟩
  obtain ⟨q, rfl⟩ : ∃ e : Nat, n2 = e := ⟨n2.toNat, by omega⟩
  obtain ⟨k, rfl⟩ : ∃ k : UInt8, kind = (k.toNat : Int) := ⟨UInt8.ofNat kind.toNat, by rw [UInt8.toNat_ofNat', Nat.mod_eq_of_lt (by omega)]; omega⟩
  have c0 : 0 ≤ imin (s.size : Int) 1100 ∧ imin (s.size : Int) 1100 ≤ s.size := by rw [imin_eq]; omega
  have ec : sext s 0 (imin (s.size : Int) 1100) = mkB (s.data.toList.take 1100) := cutTake s hs 1100 (by decide)
  have hb : (s.data.toList.take 1100).length ≤ 1100 := by rw [List.length_take]; omega
  generalize hbd : s.data.toList.take 1100 = body at ec hb
  obtain ⟨f1, f2, f3⟩ := rcR_facts e l q k body
  refine gabionlaw12_RecBytes.ok ⟨c0, gabionlaw12_of.ok ⟨_, _, _, rfl, ?_⟩⟩
  rw [ec]
  refine encode.c (by omega) (by omega) (by omega) (by omega) fun g pg => ⟨_, _, rfl, ref_Encode.c (by omega) (by omega) (by omega) fun g2 p2 => ⟨_, _, rfl, wakes12.c fun g3 p3 => ⟨_, rfl, xsIf_f rfl (xsIf_f (by simp) (xsIf_f (by simp) (right.c ⟨_, rfl, xsIf_f (by rw [f2]; simp) (size.c (by omega) ⟨_, rfl, ?_⟩)⟩)))⟩⟩⟩
  rw [f3]
  refine xsIf_f (by rw [mkB_size]; simp) (gabionlaw12_RecBytes.J7.ok ?_)
  generalize (rcR e l q k body).1 = R at f1
  unfold gabionlaw12_RecBytes.J7.wp
  have em : imax 0 (IntKind.i64.wrap (((mkB R).size : Int) - 1)) = ((R.length - 1 : Nat) : Int) := by rw [mkB_size, i64_in _ (by omega), imax_eq]; omega
  rw [em]
  have s1 : sext (mkB R) 0 ((R.length - 1 : Nat) : Int) = mkB (R.take (R.length - 1)) := sext_mk (mkB R) (a := 0)
  rw [s1, mkB_append]
  refine ⟨by rw [mkB_size, mkB_size]; omega, ⟨by omega, by rw [mkB_size]; omega⟩, fun b hbn => ?_⟩
  have hP := (pg.trans p2).trans p3
  exact bytes8 (h0 := h) (X := [body, R, R ++ body, R.take (R.length - 1)]) rfl (by
    intro x hx
    simp only [List.mem_cons, List.not_mem_nil, or_false] at hx
    rcases hx with rfl | rfl | rfl | rfl
    · omega
    · omega
    · rw [List.length_append]; omega
    · rw [List.length_take]; omega) 4 0 _ rfl (hP.upd' (hP.none hbn) _) (Blk.new _ b #[.string (mkB body), .string (mkB R), .string (mkB (R ++ body)), .string (mkB (R.take (R.length - 1)))] _)
end Go.Gb
