/- Own texts for the seat: Rc1 Rc2 Rc4 Rc5 Rc6 Rc7 Rc8 Rc9 RcA RcB. -/
import Derived.Test.YtcccjpahikgibaaDoorB6
import Derived.Test.YtcccjpahikgibaaDoorB4
import Derived.Test.YtcccjpahikgibaaDoorA13
import Derived.Test.YtcccjpahikgibaaDoorB2
import Derived.Test.YtcccjpahikgibaaDoorB3
set_option linter.unusedVariables false
set_option linter.unusedSimpArgs false
set_option linter.unnecessarySimpa false
set_option linter.deprecated false
namespace Go.Gb
open Go.Proofs IntWalk

/-! ## marked, plain, sum -/

theorem repeat_zero (c : Nat) : Lib.repeatL [0] c = List.replicate c (0 : UInt8) := by
  induction c with
  | zero => rfl
  | succ c ih => unfold Lib.repeatL; rw [ih]; rfl

theorem u8_add (a b : UInt8) : IntKind.u8.wrap ((a.toNat : Int) + (b.toNat : Int)) = ((a + b).toNat : Int) := by
  rw [UInt8.toNat_add]
  have e : (a.toNat : Int) + (b.toNat : Int) = ((a.toNat + b.toNat : Nat) : Int) := by omega
  rw [e, u8_nat]

theorem marked_L2 {h0 : Heap} {b : Nat} {d : UInt8} {Q : Value → Heap → Prop} : ∀ (n : Nat) (s : List UInt8) (l : List UInt8) (m : UInt8) (h : Heap), s.length ≤ n → l.length + 8 * s.length ≤ 100000 → BdP h0 h b l →
    (∀ h', Part h0 h' → Q (.string (mkB (l ++ mk s m d))) h') → rec_marked.L2 (mkB s) (m.toNat : Int) (d.toNat : Int) b h Q := by
  intro n
  induction n with
  | zero =>
    intro s l m h hs hl w hq
    have : s = [] := List.eq_nil_of_length_eq_zero (by omega)
    subst this
    refine rec_marked.L2.ok (xsIf_f rfl (w.done (by omega) fun h' p => ⟨_, rfl, ?_⟩))
    have := hq h' p
    rw [mk_nil, List.append_nil] at this
    exact this
  | succ n ih =>
    intro s l m h hs hl w hq
    by_cases e : s = []
    · subst e
      refine rec_marked.L2.ok (xsIf_f rfl (w.done (by omega) fun h' p => ⟨_, rfl, ?_⟩))
      have := hq h' p
      rw [mk_nil, List.append_nil] at this
      exact this
    · have hpos : 0 < s.length := List.length_pos_iff.2 e
      have hmin : imin ((mkB s).size : Int) 7 = ((min s.length 7 : Nat) : Int) := by rw [imin_eq, mkB_size]; omega
      rw [mk_cons e] at hq
      refine rec_marked.L2.ok ?_
      unfold rec_marked.L2.wp
      rw [hmin]
      have e7 : IntKind.i64.wrap (7 - ((min s.length 7 : Nat) : Int)) = ((7 - min s.length 7 : Nat) : Int) := by rw [i64_in _ (by omega)]; omega
      rw [e7]
      have ext : ∀ k : Nat, k ≤ s.length → sext (mkB s) 0 (k : Int) = mkB (s.take k) := fun k hk => by
        have := sext_mk (mkB s) (a := 0) (b := k)
        rw [List.drop_zero] at this
        exact this
      have edr : sext (mkB s) ((min s.length 7 : Nat) : Int) ((mkB s).size : Int) = mkB (s.drop 7) := by
        rw [sext_mk, mkB_size]
        show mkB ((s.take s.length).drop _) = _
        rw [List.take_of_length_le (Nat.le_refl _)]
        by_cases h7 : s.length ≤ 7
        · rw [Nat.min_eq_left h7, List.drop_eq_nil_of_le (Nat.le_refl _), List.drop_eq_nil_of_le h7]
        · rw [Nat.min_eq_right (by omega)]
      refine xsIf_t (by rw [mkB_size]; simp; omega) ⟨⟨by omega, by rw [mkB_size]; omega⟩, strings_Repeat.c (by omega) (by decide) ⟨_, rfl, ?_⟩⟩
      rw [ext _ (Nat.min_le_left _ _), edr]
      have er : ({ data := (Lib.repeatL ({ data := #[UInt8.ofNat 0] } : ByteArray).data.toList (7 - min s.length 7)).toArray } : ByteArray) = mkB (List.replicate (7 - min s.length 7) 0) := by
        show mkB (Lib.repeatL [0] _) = _
        rw [repeat_zero]
      rw [er, mkB_append]
      have hw : s.take (min s.length 7) = s.take 7 := by
        by_cases h7 : s.length ≤ 7
        · rw [Nat.min_eq_left h7, List.take_of_length_le (Nat.le_refl _), List.take_of_length_le h7]
        · rw [Nat.min_eq_right (by omega)]
      rw [hw]
      have hsz : (mkB (s.take 7 ++ List.replicate (7 - min s.length 7) 0)).size = 7 := by rw [mkB_size]; simp; omega
      refine ⟨by rw [mkB_size, mkB_size]; simp; omega, w.str (by rw [hsz]; decide) (by rw [hsz]; omega) fun h1 w1 => ⟨_, _, rfl, w1.byte (by simp; omega) fun h2 w2 => ⟨_, rfl, ⟨by omega, by rw [mkB_size]; omega⟩, ?_⟩⟩⟩
      rw [u8_add]
      refine ih (s.drop 7) _ (m + d) h2 (by rw [List.length_drop]; omega) ?_ w2 fun h' p => ?_
      · simp; omega
      · have := hq h' p
        unfold word7 at this
        simpa [List.append_assoc] using this

theorem marked.c {s : List UInt8} {m d : UInt8} {h : Heap} {Q : Value → Heap → Prop} (hs : s.length ≤ 10000) (hq : ∀ h', Part h h' → Q (.string (mkB (mk s m d))) h') :
    C Tryd.prog 38 #[.string (mkB s), .int .u8 (m.toNat : Int), .int .u8 (d.toNat : Int)] h Q :=
  rec_marked.ok fun b hb => marked_L2 s.length s [] m _ (Nat.le_refl _) (by simp; omega) (BdP.new (Part.refl _) hb) fun h' p => by
    have := hq h' p
    rw [List.nil_append]; exact this

theorem plain_L2 {h0 : Heap} {b : Nat} {Q : Value → Heap → Prop} : ∀ (n : Nat) (s : List UInt8) (l : List UInt8) (h : Heap), s.length ≤ n → l.length + s.length ≤ 100000 → BdP h0 h b l →
    (∀ h', Part h0 h' → Q (.string (mkB (l ++ pl s))) h') → rec_plain.L2 (mkB s) b h Q := by
  intro n
  induction n with
  | zero =>
    intro s l h hs hl w hq
    rw [pl_short (by omega), List.append_nil] at hq
    exact rec_plain.L2.ok (xsIf_f (by rw [mkB_size]; simp; omega) (w.done (by omega) fun h' p => ⟨_, rfl, hq h' p⟩))
  | succ n ih =>
    intro s l h hs hl w hq
    by_cases h8 : 8 ≤ s.length
    · rw [pl_cons h8] at hq
      have e1 : sext (mkB s) 0 7 = mkB (s.take 7) := sext_mk (mkB s) (a := 0) (b := 7)
      have e2 : sext (mkB s) 8 ((mkB s).size : Int) = mkB (s.drop 8) := by
        rw [show sext (mkB s) 8 ((mkB s).size : Int) = mkB ((s.take (mkB s).size).drop 8) from sext_mk (mkB s) (a := 8), mkB_size, List.take_of_length_le (Nat.le_refl _)]
      refine rec_plain.L2.ok ?_
      unfold rec_plain.L2.wp
      rw [e1, e2]
      have hsz : (mkB (s.take 7)).size = 7 := by rw [mkB_size]; simp; omega
      refine xsIf_t (by rw [mkB_size]; simp; omega) ⟨⟨by decide, by rw [mkB_size]; omega⟩, w.str (by rw [hsz]; decide) (by rw [hsz]; omega) fun h1 w1 => ⟨_, _, rfl, ⟨by decide, by rw [mkB_size]; omega⟩, ?_⟩⟩
      refine ih (s.drop 8) _ h1 (by rw [List.length_drop]; omega) (by simp; omega) w1 fun h' p => ?_
      have := hq h' p
      simpa [List.append_assoc] using this
    · rw [pl_short (by omega), List.append_nil] at hq
      exact rec_plain.L2.ok (xsIf_f (by rw [mkB_size]; simp; omega) (w.done (by omega) fun h' p => ⟨_, rfl, hq h' p⟩))

theorem plain.c {s : List UInt8} {h : Heap} {Q : Value → Heap → Prop} (hs : s.length ≤ 10000) (hq : ∀ h', Part h h' → Q (.string (mkB (pl s))) h') : C Tryd.prog 45 #[.string (mkB s)] h Q :=
  rec_plain.ok fun b hb => plain_L2 s.length s [] _ (Nat.le_refl _) (by simp; omega) (BdP.new (Part.refl _) hb) fun h' p => by
    have := hq h' p
    rw [List.nil_append]; exact this

/-- The word of the check. -/
def sumW (s : List UInt8) : List UInt8 := mk (putL (sum32 s) 4) 48 0
theorem sumW_length (s : List UInt8) : (sumW s).length = 8 := by unfold sumW; rw [mk_length _ _ _ _ (Nat.le_refl _), putL_length]

theorem sum.c {s : List UInt8} {h : Heap} {Q : Value → Heap → Prop} (hs : s.length ≤ 10000) (hq : ∀ h', Part h h' → Q (.string (mkB (sumW s))) h') : C Tryd.prog 39 #[.string (mkB s)] h Q := by
  have h32 := sum32_lt s
  refine rec_sum.ok (crc_Sum32.c (by rw [mkB_size]; omega) ⟨_, rfl, ?_⟩)
  have e : IntKind.u64.wrap ((sum32 (mkB s).data.toList : Nat) : Int) = ((sum32 s : Nat) : Int) := by
    show IntKind.u64.wrap ((sum32 s : Nat) : Int) = _
    rw [u64_nat]; omega
  rw [e]
  refine le_Put.c (by omega) ⟨_, rfl, ?_⟩
  show C Tryd.prog 38 #[.string (mkB (putL (sum32 s) 4)), .int .u8 (((48 : UInt8).toNat : Nat) : Int), .int .u8 (((0 : UInt8).toNat : Nat) : Int)] h _
  exact marked.c (by rw [putL_length]; decide) fun h' p => ⟨_, rfl, hq h' p⟩
end Go.Gb
namespace Go.Gb
open Go.Proofs IntWalk

/-! ## Encode -/

def headL (e l q : Nat) (k : UInt8) (n : Nat) : List UInt8 := putL n 2 ++ [k] ++ putL e 4 ++ putL l 4 ++ putL q 4
theorem headL_length (e l q : Nat) (k : UInt8) (n : Nat) : (headL e l q k n).length = 15 := by unfold headL; simp [putL_length]
def rcA (e l q : Nat) (k : UInt8) (body : List UInt8) : List UInt8 := mk (headL e l q k body.length ++ List.replicate 6 0) 17 1 ++ mk body 32 0
def rcE (e l q : Nat) (k : UInt8) (body : List UInt8) : List UInt8 := rcA e l q k body ++ sumW (rcA e l q k body)
def rcR (e l q : Nat) (k : UInt8) (body : List UInt8) : List UInt8 × Int := if k ≠ 0 ∧ body.length ≤ 1024 then (rcE e l q k body, 0) else ([], 2)

theorem rcA_length (e l q : Nat) (k : UInt8) (body : List UInt8) : (rcA e l q k body).length = 24 + 8 * ((body.length + 6) / 7) := by
  unfold rcA
  rw [List.length_append, mk_length _ _ _ _ (Nat.le_refl _), mk_length _ _ _ _ (Nat.le_refl _), List.length_append, headL_length, List.length_replicate]

theorem right.c {k : UInt8} {body : List UInt8} {h : Heap} {Q : Value → Heap → Prop} (hq : Q (.bool (decide (k ≠ 0 ∧ body.length ≤ 1024))) h) : C Tryd.prog 24 #[.agg #[.int .u8 (k.toNat : Int), .string (mkB body)]] h Q := by
  have h0 : ((k.toNat : Int) = 0) ↔ k = 0 := by
    rw [← UInt8.toNat_inj]; show _ ↔ k.toNat = 0; omega
  refine rec_Record_Right.ok (xsIf_intro (fun e => ?_) fun e => ?_)
  · have e : k ≠ 0 := fun hk => by simp only [decide_eq_true_eq] at e; exact e (h0.2 hk)
    have : decide (((mkB body).size : Int) ≤ 1024) = decide (k ≠ 0 ∧ body.length ≤ 1024) := by
      rw [mkB_size, Bool.eq_iff_iff, decide_eq_true_eq, decide_eq_true_eq]
      constructor
      · intro h; exact ⟨e, by omega⟩
      · intro h; omega
    rw [this]; exact hq
  · have e : k = 0 := by
      have e2 : ¬ ((k.toNat : Int) ≠ 0) := by rw [decide_eq_false_iff_not] at e; exact e
      exact h0.1 (Classical.byContradiction fun h => e2 h)
    have : decide (k ≠ 0 ∧ body.length ≤ 1024) = false := by rw [decide_eq_false_iff_not]; exact fun h => h.1 e
    rw [this] at hq; exact hq

theorem words.c {n : Nat} {h : Heap} {Q : Value → Heap → Prop} (hn : n ≤ 1000000) (hq : Q (.int .i64 (((n + 6) / 7 : Nat) : Int)) h) : C Tryd.prog 43 #[.int .i64 (n : Int)] h Q := by
  refine rec_words.ok ?_
  unfold rec_words.wp
  have e : iquo .i64 (IntKind.i64.wrap (IntKind.i64.wrap ((n : Int) + 7) - 1)) 7 = (((n + 6) / 7 : Nat) : Int) := by
    rw [i64_in ((n : Int) + 7) (by omega), i64_in _ (by omega)]
    have e2 : (n : Int) + 7 - 1 = ((n + 6 : Nat) : Int) := by omega
    rw [e2]
    unfold iquo
    rw [Int.tdiv_eq_ediv_of_nonneg (by omega)]
    have e3 : ((n + 6 : Nat) : Int) / 7 = (((n + 6) / 7 : Nat) : Int) := rfl
    rw [e3, i64_in _ (by omega)]
  rw [e]; exact hq

theorem size.c {k : UInt8} {body : List UInt8} {h : Heap} {Q : Value → Heap → Prop} (hb : body.length ≤ 10000) (hq : Q (.int .i64 (if k ≠ 0 ∧ body.length ≤ 1024 then ((8 * (3 + (body.length + 6) / 7 + 1) : Nat) : Int) else 0)) h) :
    C Tryd.prog 25 #[.agg #[.int .u8 (k.toNat : Int), .string (mkB body)]] h Q := by
  refine rec_Record_Size.ok (right.c ⟨_, rfl, xsIf_intro (fun e => ?_) fun e => ?_⟩)
  · rw [if_neg (fun h => by rw [decide_eq_true h] at e; cases e)] at hq; exact hq
  · rw [if_pos (by simpa using e)] at hq
    rw [mkB_size]
    refine words.c (by omega) ⟨_, rfl, ?_⟩
    rw [i64_in (3 + (((body.length + 6) / 7 : Nat) : Int)) (by omega), i64_in (3 + (((body.length + 6) / 7 : Nat) : Int) + 1) (by omega), i64_in _ (by omega)]
    have e2 : 8 * (3 + (((body.length + 6) / 7 : Nat) : Int) + 1) = ((8 * (3 + (body.length + 6) / 7 + 1) : Nat) : Int) := by omega
    rw [e2]; exact hq

theorem byte_str {h : Heap} {b : Nat} {k : UInt8} {K : ByteArray → Prop} (hb : h b = some (.cells #[.int .u8 (k.toNat : Int)] 5 (0, 0))) (hK : K (mkB [k])) : xsStr h (some ⟨b, 0, none⟩) 1 K :=
  ⟨[k], rfl, .inr ⟨b, 0, rfl, fun j hj => by
    have : j = 0 := by simpa [byteVals] using hj
    subst this
    unfold Heap.cell; rw [hb]; rfl⟩, hK⟩

theorem putc {n : Nat} {k : Nat} {h : Heap} {Q : Value → Heap → Prop} (hk : k ≤ 8) (hn : n < 18446744073709551616) (hq : Q (.string (mkB (putL n k))) h) : C Tryd.prog 36 #[.int .u64 (IntKind.u64.wrap (n : Int)), .int .i64 (k : Int)] h Q := by
  rw [u64_nat' hn]
  refine le_Put.c hn ?_
  have : cnt (k : Int) = k := by unfold cnt; omega
  rw [this]; exact hq

theorem encode.c {e l q : Nat} {k : UInt8} {body : List UInt8} {h : Heap} {Q : Value → Heap → Prop} (he : e < 4294967296) (hl : l < 4294967296) (hqq : q < 4294967296) (hb : body.length ≤ 5000)
    (hq : ∀ h', Part h h' → Q (.tuple #[.string (mkB (rcR e l q k body).1), .int .i64 (rcR e l q k body).2]) h') :
    C Tryd.prog 20 #[.agg #[.int .u32 (e : Int), .int .u32 (l : Int), .int .u32 (q : Int)], .agg #[.int .u8 (k.toNat : Int), .string (mkB body)]] h Q := by
  refine rec_Encode.ok (right.c ⟨_, rfl, xsIf_intro (fun hr => ?_) fun hr => ?_⟩)
  · have := hq h (Part.refl _)
    unfold rcR at this
    rw [if_neg (fun h => by rw [decide_eq_true h] at hr; cases hr)] at this; exact this
  have hr : k ≠ 0 ∧ body.length ≤ 1024 := by simpa using hr
  have hE : rcR e l q k body = (rcE e l q k body, 0) := if_pos hr
  rw [hE] at hq
  have hsz : ((mkB body).size : Int) = (body.length : Int) := by rw [mkB_size]
  have go : ∀ (h1 : Heap), Part h h1 → ∀ b1, h1 b1 = none → rec_Encode.L5 (mkB (putL body.length 2) ++ mkB [k]) (some ⟨b1, 0, none⟩) 3 3 3 0 (k.toNat : Int) (mkB body) (upd h1 b1 (.cells #[.int .u32 (e : Int), .int .u32 (l : Int), .int .u32 (q : Int)] 42 (0, 0))) Q := by
    intro h1 p1 b1 hb1
    have B := Blk.new h1 b1 #[.int .u32 (e : Int), .int .u32 (l : Int), .int .u32 (q : Int)] 42
    have p2 : Part h (upd h1 b1 (.cells #[.int .u32 (e : Int), .int .u32 (l : Int), .int .u32 (q : Int)] 42 (0, 0))) := p1.upd' (p1.none hb1) _
    revert B p2
    generalize upd h1 b1 (.cells #[.int .u32 (e : Int), .int .u32 (l : Int), .int .u32 (q : Int)] 42 (0, 0)) = g
    intro B p2
    have pl2 := putL_length 2 body.length
    have p4 := putL_length 4
    rw [mkB_append]
    refine rec_Encode.L5.ok (xsIf_t (by decide) ⟨by decide, b1, 0, rfl, e, B.cell 0, putc (by decide) (by omega) ⟨_, rfl, by rw [mkB_size, mkB_size]; simp [putL_length], ?_⟩⟩)
    rw [mkB_append]
    refine rec_Encode.L5.ok (xsIf_t (by decide) ⟨by decide, b1, 0, rfl, l, B.cell 1, putc (by decide) (by omega) ⟨_, rfl, by rw [mkB_size, mkB_size]; simp [putL_length], ?_⟩⟩)
    rw [mkB_append]
    refine rec_Encode.L5.ok (xsIf_t (by decide) ⟨by decide, b1, 0, rfl, q, B.cell 2, putc (by decide) (by omega) ⟨_, rfl, by rw [mkB_size, mkB_size]; simp [putL_length], ?_⟩⟩)
    rw [mkB_append]
    have eh : putL body.length 2 ++ [k] ++ putL e 4 ++ putL l 4 ++ putL q 4 = headL e l q k body.length := rfl
    rw [eh]
    have h15 := headL_length e l q k body.length
    refine rec_Encode.L5.ok (xsIf_f (by decide) ?_)
    have e6 : IntKind.i64.wrap (21 - ((mkB (headL e l q k body.length)).size : Int)) = ((6 : Nat) : Int) := by rw [mkB_size, h15]; rfl
    rw [e6]
    refine strings_Repeat.c (by decide) (by decide) ⟨_, rfl, ?_⟩
    have er : ({ data := (Lib.repeatL ({ data := #[UInt8.ofNat 0] } : ByteArray).data.toList 6).toArray } : ByteArray) = mkB (List.replicate 6 0) := by
      show mkB (Lib.repeatL [0] _) = _
      rw [repeat_zero]
    rw [er, mkB_append]
    refine ⟨by rw [mkB_size, mkB_size, h15]; simp, ?_⟩
    refine marked.c (m := 17) (d := 1) (by rw [List.length_append, h15]; simp) fun h3 p3 => ⟨_, rfl, ?_⟩
    refine marked.c (m := 32) (d := 0) (by omega) fun h4 p4 => ⟨_, rfl, ?_⟩
    rw [mkB_append]
    have eA : mk (headL e l q k body.length ++ List.replicate 6 0) 17 1 ++ mk body 32 0 = rcA e l q k body := rfl
    rw [eA]
    have lA := rcA_length e l q k body
    have l1 : (mk (headL e l q k body.length ++ List.replicate 6 0) 17 1).length = 24 := by rw [mk_length _ _ _ _ (Nat.le_refl _), List.length_append, h15]; simp
    have l2 : (mk body 32 0).length = 8 * ((body.length + 6) / 7) := mk_length _ _ _ _ (Nat.le_refl _)
    refine ⟨by rw [mkB_size, mkB_size, l1, l2]; omega, sum.c (by omega) fun h5 p5 => ⟨_, rfl, ?_, ?_⟩⟩
    · rw [mkB_size, mkB_size, lA, sumW_length]; omega
    · rw [mkB_append]
      exact hq h5 (((p2.trans p3).trans p4).trans p5)
  rw [hsz]
  have ps : ∀ {g : Heap} {Q' : Value → Heap → Prop}, Q' (.string (mkB (putL body.length 2))) g → C Tryd.prog 36 #[.int .u64 (IntKind.u64.wrap (body.length : Int)), .int .i64 2] g Q' := fun hq' => putc (k := 2) (by decide) (by omega) hq'
  have bd : (((mkB (putL body.length 2)).size + (mkB [k]).size : Nat) : Int) ≤ 9223372036854775807 := by rw [mkB_size, mkB_size, putL_length, List.length_singleton]; decide
  refine ⟨ps ⟨_, rfl, fun b hb' => byte_str (upd_same _ _ _) ⟨bd, fun b1 hb1 => go _ (Part.upd hb' _) b1 hb1⟩⟩, fun b hb' => ⟨ps ⟨_, rfl, byte_str (upd_same _ _ _) ⟨bd, fun b1 hb1 => go _ (Part.upd hb' _) b1 hb1⟩⟩, byte_str (upd_same _ _ _) (ps ⟨_, rfl, bd, fun b1 hb1 => go _ (Part.upd hb' _) b1 hb1⟩)⟩⟩
end Go.Gb
namespace Go.Gb
open Go.Proofs IntWalk

/-! ## Decode of the program -/

theorem pl_length : ∀ (n : Nat) (s : List UInt8), s.length ≤ n → (pl s).length = 7 * (s.length / 8)
  | 0, s, h => by rw [pl_short (by omega)]; simp; omega
  | n + 1, s, h => by
    by_cases h8 : 8 ≤ s.length
    · rw [pl_cons h8, List.length_append, pl_length n _ (by rw [List.length_drop]; omega), List.length_drop, List.length_take]
      omega
    · rw [pl_short (by omega)]; simp; omega

theorem getL_most : ∀ (l : List UInt8) (n : Nat), l.length ≤ n → getL l < 256 ^ n
  | [], n, _ => by show 0 < 256 ^ n; exact Nat.pos_of_ne_zero (by simp)
  | b :: l, n, h => by
    obtain ⟨m, rfl⟩ : ∃ m, n = m + 1 := ⟨n - 1, by simp at h; omega⟩
    have := getL_most l m (by simp at h; omega)
    have hb : b.toNat < 256 := b.toNat_lt
    show b.toNat + 256 * getL l < 256 ^ (m + 1)
    rw [Nat.pow_succ]
    omega

abbrev Rd := Nat × Nat × Nat × UInt8 × List UInt8 × Int
def dnone (e : Int) : Rd := (0, 0, 0, 0, [], e)
def hdOf (s : List UInt8) : List UInt8 := pl (s.take 24)
def nOf (s : List UInt8) : Nat := getL ((hdOf s).take 2)
def stOf (s : List UInt8) (i : Nat) : Nat := getL (((hdOf s).drop (3 + 4 * i)).take 4)
def kOf (s : List UInt8) : UInt8 := (hdOf s).getD 2 0
def allZ (l : List UInt8) : Prop := ∀ b ∈ l, b = 0
def beginsP (s : List UInt8) : Prop := mk (hdOf s) 17 1 = s.take 24 ∧ allZ ((hdOf s).drop 15) ∧ kOf s ≠ 0 ∧ nOf s ≤ 1024
def endOf (s : List UInt8) : Nat := 24 + 8 * ((nOf s + 6) / 7)
def rbodyOf (s : List UInt8) : List UInt8 := (pl ((s.take (endOf s)).drop 24)).take (nOf s)
def sumAt (s : List UInt8) : List UInt8 := (s.take (endOf s + 8)).drop (endOf s)
open Classical in
noncomputable def rdec (s : List UInt8) : Rd :=
  if s.length < 24 ∨ ¬ beginsP s ∨ s.length < endOf s + 8 then dnone 4
  else if mk (rbodyOf s) 32 0 ≠ (s.take (endOf s)).drop 24 ∨ mk ((pl (sumAt s)).take 4) 48 0 ≠ sumAt s then dnone 4
  else if sumW (s.take (endOf s)) ≠ sumAt s then dnone 5
  else (stOf s 0, stOf s 1, stOf s 2, kOf s, rbodyOf s, 0)

theorem hd_len {s : List UInt8} (h : 24 ≤ s.length) : (hdOf s).length = 21 := by
  unfold hdOf
  rw [pl_length _ _ (Nat.le_refl _), List.length_take, Nat.min_eq_left h]
theorem nOf_lt (s : List UInt8) : nOf s < 65536 := getL_most _ 2 (by rw [List.length_take]; omega)
theorem stOf_lt (s : List UInt8) (i : Nat) : stOf s i < 4294967296 := getL_most _ 4 (by rw [List.length_take]; omega)

theorem bget_mk (l : List UInt8) {i : Nat} (h : i < l.length) : bget (mkB l) i = some l[i] := by
  rw [bget_get (by rw [mkB_size]; exact h)]

/-! strings.Trim of zeros -/

theorem trimR {Q : Value → Heap → Prop} {h : Heap} : ∀ (n : Nat) (s : List UInt8), s.length ≤ n → s.length ≤ 1000000 → (∀ t, (allZ t ↔ allZ s) → t.length ≤ s.length → Q (.string (mkB t)) h) → strings_trimRightByte.L1 (mkB s) 0 h Q
  | 0, s, hn, hs, hq => by
    exact strings_trimRightByte.L1.ok (xsIf_f (decide_eq_false (by rw [mkB_size]; omega)) (hq s Iff.rfl (Nat.le_refl _)))
  | n + 1, s, hn, hs, hq => by
    by_cases e : s = []
    · subst e
      exact strings_trimRightByte.L1.ok (xsIf_f rfl (hq [] Iff.rfl (Nat.le_refl _)))
    · obtain ⟨t, x, hx⟩ : ∃ t x, s = t ++ [x] := ⟨_, _, (List.dropLast_concat_getLast e).symm⟩
      subst hx
      have hl : (t ++ [x]).length = t.length + 1 := by simp
      have e1 : IntKind.i64.wrap (((mkB (t ++ [x])).size : Int) - 1) = (t.length : Int) := by rw [mkB_size, hl, i64_in _ (by omega)]; omega
      refine strings_trimRightByte.L1.ok ?_
      unfold strings_trimRightByte.L1.wp
      rw [e1]
      have hg : bget (mkB (t ++ [x])) t.length = some x := by
        rw [bget_mk _ (by rw [hl]; omega)]; simp
      refine xsIf_t (decide_eq_true (by rw [mkB_size, hl]; omega)) ⟨x, by omega, hg, xsIf_intro (fun hz => ⟨⟨by omega, by rw [mkB_size, hl]; omega⟩, ?_⟩) fun hz => hq _ Iff.rfl (Nat.le_refl _)⟩
      have hz : x = 0 := by
        have : (x.toNat : Int) = 0 := by simpa using hz
        rw [← UInt8.toNat_inj]; show x.toNat = 0; omega
      have e2 : sext (mkB (t ++ [x])) 0 (t.length : Int) = mkB t := by
        have := sext_mk (mkB (t ++ [x])) (a := 0) (b := t.length)
        rw [List.drop_zero] at this
        rw [show sext (mkB (t ++ [x])) 0 (t.length : Int) = _ from this]
        show mkB ((t ++ [x]).take t.length) = mkB t
        simp
      rw [e2]
      refine trimR n t (by omega) (by omega) fun u hu hul => hq u ?_ (by omega)
      rw [hu]
      unfold allZ
      constructor
      · intro h b hb
        rcases List.mem_append.1 hb with hb | hb
        · exact h b hb
        · have : b = x := by simpa using hb
          rw [this]; exact hz
      · intro h b hb; exact h b (by simp [hb])

theorem trimLft {Q : Value → Heap → Prop} {h : Heap} : ∀ (n : Nat) (s : List UInt8), s.length ≤ n → (∀ t, (t = [] ↔ allZ s) → Q (.string (mkB t)) h) → strings_trimLeftByte.L1 (mkB s) 0 h Q
  | 0, s, hn, hq => by
    have : s = [] := List.eq_nil_of_length_eq_zero (by omega)
    subst this
    exact strings_trimLeftByte.L1.ok (xsIf_f rfl (hq [] ⟨fun _ b hb => by simp at hb, fun _ => rfl⟩))
  | n + 1, [], hn, hq => strings_trimLeftByte.L1.ok (xsIf_f rfl (hq [] ⟨fun _ b hb => by simp at hb, fun _ => rfl⟩))
  | n + 1, x :: t, hn, hq => by
    have hg : bget (mkB (x :: t)) 0 = some x := by
      exact bget_mk (x :: t) (i := 0) (by simp)
    refine strings_trimLeftByte.L1.ok (xsIf_t (decide_eq_true (by rw [mkB_size, List.length_cons]; omega)) ⟨x, by decide, hg, xsIf_intro (fun hz => ⟨⟨by decide, by rw [mkB_size, List.length_cons]; omega⟩, ?_⟩) fun hz => hq _ ?_⟩)
    · have hz : x = 0 := by
        have : (x.toNat : Int) = 0 := by simpa using hz
        rw [← UInt8.toNat_inj]; show x.toNat = 0; omega
      have e2 : sext (mkB (x :: t)) 1 ((mkB (x :: t)).size : Int) = mkB t := by
        rw [show sext (mkB (x :: t)) 1 ((mkB (x :: t)).size : Int) = mkB (((x :: t).take (mkB (x :: t)).size).drop 1) from sext_mk (mkB (x :: t)) (a := 1), mkB_size, List.take_of_length_le (Nat.le_refl _)]
        rfl
      rw [e2]
      refine trimLft n t (by simp at hn; omega) fun u hu => hq u ?_
      rw [hu]
      unfold allZ
      constructor
      · intro h b hb
        rcases List.mem_cons.1 hb with rfl | hb
        · exact hz
        · exact h b hb
      · intro h b hb; exact h b (by simp [hb])
    · have hz : ¬ ((x.toNat : Int) = 0) := by simpa using hz
      constructor
      · intro h; cases h
      · intro h
        have := h x (by simp)
        rw [this] at hz; exact absurd rfl hz

set_option maxRecDepth 1000000 in
theorem trim.c {s : List UInt8} {h : Heap} {Q : Value → Heap → Prop} (hs : s.length ≤ 1000000) (hq : ∀ t, (t = [] ↔ allZ s) → Q (.string (mkB t)) h) : C Tryd.prog 64 #[.string (mkB s), .string ⟨#[UInt8.ofNat 0]⟩] h Q := by
  refine strings_Trim.ok (xsIf_intro (fun e => ?_) fun e => xsIf_f rfl (strings_Trim.J3.ok (xsIf_t rfl ⟨0, by decide, rfl, xsIf_t (by decide) ⟨0, by decide, rfl, 0, by decide, rfl, ?_⟩⟩)))
  · have e : s = [] := (mkB_nil_iff s).1 (by simpa using e)
    exact hq s ⟨fun _ b hb => (by rw [e] at hb; cases hb), fun _ => e⟩
  · refine strings_trimRightByte.ok (trimR s.length s (Nat.le_refl _) hs fun t ht _ => ⟨_, rfl, strings_trimLeftByte.ok (trimLft t.length t (Nat.le_refl _) fun u hu => ⟨_, rfl, hq u (hu.trans ht)⟩)⟩)

theorem number.c {s : List UInt8} {i : Nat} {h : Heap} {Q : Value → Heap → Prop} (hs : 24 ≤ s.length) (hi : i < 3) (hq : Q (.int .u32 (stOf s i : Nat)) h) : C Tryd.prog 65 #[.string (mkB (hdOf s)), .int .i64 (i : Int)] h Q := by
  have hl := hd_len hs
  refine rec_number.ok ?_
  unfold rec_number.wp
  have e1 : IntKind.i64.wrap (3 + IntKind.i64.wrap ((i : Int) * 4)) = ((3 + 4 * i : Nat) : Int) := by rw [i64_in ((i : Int) * 4) (by omega), i64_in _ (by omega)]; omega
  rw [e1]
  have e2 : IntKind.i64.wrap (((3 + 4 * i : Nat) : Int) + 4) = ((3 + 4 * i + 4 : Nat) : Int) := by rw [i64_in _ (by omega)]; omega
  rw [e2, mkB_size, hl]
  have e3 : sext (mkB (hdOf s)) ((3 + 4 * i : Nat) : Int) ((3 + 4 * i + 4 : Nat) : Int) = mkB (((hdOf s).drop (3 + 4 * i)).take 4) := by
    rw [show sext (mkB (hdOf s)) ((3 + 4 * i : Nat) : Int) ((3 + 4 * i + 4 : Nat) : Int) = mkB (((hdOf s).take (3 + 4 * i + 4)).drop (3 + 4 * i)) from sext_mk (mkB (hdOf s)), List.take_drop]
  rw [e3]
  refine ⟨⟨by omega, by omega⟩, ⟨by omega, by omega⟩, le_Get.c (by rw [mkB_size, List.length_take]; omega) ⟨_, rfl, ?_⟩⟩
  have e4 : get8 (mkB (((hdOf s).drop (3 + 4 * i)).take 4)) = stOf s i := by
    unfold get8 stOf
    show getL ((((hdOf s).drop (3 + 4 * i)).take 4).take 8) = _
    rw [List.take_of_length_le (by rw [List.length_take]; omega)]
  rw [e4]
  have e5 : IntKind.u32.wrap ((stOf s i : Nat) : Int) = ((stOf s i : Nat) : Int) := by
    have := stOf_lt s i
    simp only [IntKind.wrap]
    simp (config := { decide := true }) [IntKind.bits, IntKind.signed]
    omega
  rw [e5]; exact hq

/-- What begins gives. -/
theorem begins.c {s : List UInt8} {h : Heap} {Q : Value → Heap → Prop} (hs : s.length ≤ 10000)
    (h0 : s.length < 24 → Q (.tuple #[.agg #[.int .u32 0, .int .u32 0, .int .u32 0], .agg #[.int .u8 0, .string ⟨#[]⟩], .int .i64 0, .bool false]) h)
    (h1 : ∀ (ok : Bool) h', 24 ≤ s.length → (ok = true ↔ beginsP s) → Part h h' → Q (.tuple #[.agg #[.int .u32 (stOf s 0 : Nat), .int .u32 (stOf s 1 : Nat), .int .u32 (stOf s 2 : Nat)], .agg #[.int .u8 ((kOf s).toNat : Int), .string ⟨#[]⟩], .int .i64 (nOf s : Nat), .bool ok]) h') :
    C Tryd.prog 44 #[.string (mkB s)] h Q := by
  refine rec_begins.ok (xsIf_intro (fun e => h0 ?_) fun e => ?_)
  · have e : ((mkB s).size : Int) < 24 := by simpa using e
    rw [mkB_size] at e; omega
  have e : 24 ≤ s.length := by
    have e : ¬ ((mkB s).size : Int) < 24 := by simpa using e
    rw [mkB_size] at e; omega
  have hl := hd_len e
  have e24 : sext (mkB s) 0 24 = mkB (s.take 24) := sext_mk (mkB s) (a := 0) (b := 24)
  rw [e24]
  have hb24 : (0 : Int) ≤ 24 ∧ (24 : Int) ≤ ((mkB s).size : Int) := by rw [mkB_size]; omega
  refine ⟨hb24, plain.c (by rw [List.length_take]; omega) fun g p => ⟨_, rfl, ?_⟩⟩
  show _ ∧ C Tryd.prog 63 #[.string (sext (mkB (hdOf s)) 0 2)] g _
  have e2 : sext (mkB (hdOf s)) 0 2 = mkB ((hdOf s).take 2) := sext_mk (mkB (hdOf s)) (a := 0) (b := 2)
  rw [e2]
  refine ⟨⟨by decide, by show (2 : Int) ≤ ((mkB (hdOf s)).size : Int); rw [mkB_size, hl]; decide⟩, le_Get.c (by rw [mkB_size, List.length_take]; omega) ⟨_, rfl, kOf s, by decide, ?_, hb24, ?_⟩⟩
  · show bget (mkB (hdOf s)) 2 = _
    rw [bget_mk _ (by omega)]
    unfold kOf
    rw [List.getD_eq_getElem?_getD, List.getElem?_eq_getElem (by omega)]; rfl
  have en : get8 (mkB ((hdOf s).take 2)) = nOf s := by
    unfold get8 nOf
    show getL (((hdOf s).take 2).take 8) = _
    rw [List.take_of_length_le (by rw [List.length_take]; omega)]
  rw [en]
  have hn := nOf_lt s
  have ew : IntKind.i64.wrap ((nOf s : Nat) : Int) = ((nOf s : Nat) : Int) := i64_in _ (by omega)
  show C Tryd.prog 38 #[.string (mkB (hdOf s)), .int .u8 (((17 : UInt8).toNat : Nat) : Int), .int .u8 (((1 : UInt8).toNat : Nat) : Int)] g _
  refine marked.c (by omega) fun g2 p2 => ⟨_, rfl, ?_⟩
  have hP := p.trans p2
  rw [ew]
  have hinj : ∀ a b : List UInt8, mkB a = mkB b ↔ a = b := fun a b => ⟨fun h => congrArg (fun x : ByteArray => x.data.toList) h, fun h => by rw [h]⟩
  have nums : ∀ {Q' : Int → Int → Int → Heap → Prop}, Q' (stOf s 0 : Nat) (stOf s 1 : Nat) (stOf s 2 : Nat) g2 → C Tryd.prog 65 #[.string (mkB (hdOf s)), .int .i64 0] g2 fun r h' => ∃ x : Int, r = .int .u32 x ∧ C Tryd.prog 65 #[.string (mkB (hdOf s)), .int .i64 1] h' fun r h' => ∃ y : Int, r = .int .u32 y ∧ C Tryd.prog 65 #[.string (mkB (hdOf s)), .int .i64 2] h' fun r h' => ∃ z : Int, r = .int .u32 z ∧ Q' x y z h' :=
    fun hq => number.c (i := 0) e (by decide) ⟨_, rfl, number.c (i := 1) e (by decide) ⟨_, rfl, number.c (i := 2) e (by decide) ⟨_, rfl, hq⟩⟩⟩
  refine xsIf_intro (fun h2 => ⟨⟨by decide, by show (15 : Int) ≤ ((mkB (hdOf s)).size : Int); rw [mkB_size, hl]; decide⟩, ?_⟩) fun h2 => ?_
  · have h2 : mk (hdOf s) 17 1 = s.take 24 := (hinj _ _).1 (by simpa using h2)
    show C Tryd.prog 64 #[.string (sext (mkB (hdOf s)) 15 ((mkB (hdOf s)).size : Int)), .string ⟨#[UInt8.ofNat 0]⟩] g2 _
    have e15 : sext (mkB (hdOf s)) 15 ((mkB (hdOf s)).size : Int) = mkB ((hdOf s).drop 15) := by
      rw [show sext (mkB (hdOf s)) 15 ((mkB (hdOf s)).size : Int) = mkB (((hdOf s).take (mkB (hdOf s)).size).drop 15) from sext_mk (mkB (hdOf s)) (a := 15), mkB_size, List.take_of_length_le (Nat.le_refl _)]
    rw [e15]
    refine trim.c (by rw [List.length_drop]; omega) fun t ht => ⟨_, rfl, nums ?_⟩
    refine xsIf_intro (fun h3 => ?_) fun h3 => ?_
    · have h3 : t = [] := (mkB_nil_iff t).1 (by simpa using h3)
      have hz := ht.1 h3
      refine right.c (body := []) ⟨_, rfl, xsIf_intro (fun h4 => ?_) fun h4 => ?_⟩
      · have h4 : kOf s ≠ 0 := by
          have := of_decide_eq_true h4
          exact this.1
        refine h1 _ g2 e ?_ hP
        rw [decide_eq_true_eq]
        exact ⟨fun h => ⟨h2, hz, h4, by omega⟩, fun h => by have := h.2.2.2; omega⟩
      · have h4 : kOf s = 0 := by
          have := of_decide_eq_false h4
          exact Classical.byContradiction fun hne => this ⟨hne, by simp⟩
        refine h1 false g2 e ⟨fun h => (by cases h), fun h => absurd h4 h.2.2.1⟩ hP
    · have h3 : t ≠ [] := fun e => by rw [e] at h3; simp at h3
      exact h1 false g2 e ⟨fun h => (by cases h), fun h => absurd (ht.2 h.2.1) h3⟩ hP
  · have h2 : mk (hdOf s) 17 1 ≠ s.take 24 := fun e => by rw [e] at h2; simp at h2
    exact nums (h1 false g2 e ⟨fun h => (by cases h), fun h => absurd h.1 h2⟩ hP)
end Go.Gb
namespace Go.Gb
open Go.Proofs IntWalk

/-! ## Decode -/

def rdV (r : Rd) : Value := .tuple #[.agg #[.int .u32 (r.1 : Nat), .int .u32 (r.2.1 : Nat), .int .u32 (r.2.2.1 : Nat)], .agg #[.int .u8 (r.2.2.2.1.toNat : Int), .string (mkB r.2.2.2.2.1)], .int .i64 r.2.2.2.2.2]

theorem mkB_inj (a b : List UInt8) : mkB a = mkB b ↔ a = b := ⟨fun h => congrArg (fun x : ByteArray => x.data.toList) h, fun h => by rw [h]⟩

theorem decode.c {s : List UInt8} {h : Heap} {Q : Value → Heap → Prop} (hs : s.length ≤ 5000) (hq : ∀ h', Part h h' → Q (rdV (rdec s)) h') : C Tryd.prog 26 #[.string (mkB s)] h Q := by
  have no4 : (s.length < 24 ∨ ¬ beginsP s ∨ s.length < endOf s + 8) → rdec s = dnone 4 := fun hc => by unfold rdec; rw [if_pos hc]
  refine rec_Decode.ok (begins.c (by omega) (fun h0 => ⟨_, _, _, _, _, _, _, rfl, words.c (n := 0) (by decide) ⟨_, rfl, xsIf_t rfl ?_⟩⟩) fun ok g h24 hok hP => ⟨_, _, _, _, _, _, _, rfl, ?_⟩)
  · have := hq h (Part.refl _)
    rw [no4 (.inl h0)] at this; exact this
  have hn := nOf_lt s
  refine words.c (by omega) ⟨_, rfl, xsIf_intro (fun h1 => ?_) fun h1 => ?_⟩
  · have h1 : ¬ beginsP s := fun hb => by rw [hok.2 hb] at h1; cases h1
    have := hq g hP
    rw [no4 (.inr (.inl h1))] at this; exact this
  have hb : beginsP s := hok.1 (by simpa using h1)
  have hE : endOf s = 24 + 8 * ((nOf s + 6) / 7) := rfl
  have e0 : IntKind.i64.wrap (24 + IntKind.i64.wrap (8 * (((nOf s + 6) / 7 : Nat) : Int))) = ((endOf s : Nat) : Int) := by rw [i64_in (8 * (((nOf s + 6) / 7 : Nat) : Int)) (by omega), i64_in _ (by omega)]; omega
  have e8 : IntKind.i64.wrap (((endOf s : Nat) : Int) + 8) = ((endOf s + 8 : Nat) : Int) := by rw [i64_in _ (by omega)]; omega
  rw [e0, e8]
  refine xsIf_intro (fun h2 => ?_) fun h2 => ?_
  · have h2 : ((mkB s).size : Int) < ((endOf s + 8 : Nat) : Int) := by simpa using h2
    rw [mkB_size] at h2
    have := hq g hP
    rw [no4 (.inr (.inr (by omega)))] at this; exact this
  have h2 : endOf s + 8 ≤ s.length := by
    have h2 : ¬ ((mkB s).size : Int) < ((endOf s + 8 : Nat) : Int) := by simpa using h2
    rw [mkB_size] at h2; omega
  have hnot : ¬ (s.length < 24 ∨ ¬ beginsP s ∨ s.length < endOf s + 8) := by
    rintro (h | h | h)
    · omega
    · exact h hb
    · omega
  have s1 : sext (mkB s) 24 ((endOf s : Nat) : Int) = mkB ((s.take (endOf s)).drop 24) := sext_mk (mkB s) (a := 24)
  have s2 : sext (mkB s) ((endOf s : Nat) : Int) ((endOf s + 8 : Nat) : Int) = mkB (sumAt s) := sext_mk (mkB s)
  have s3 : sext (mkB s) 0 ((endOf s : Nat) : Int) = mkB (s.take (endOf s)) := sext_mk (mkB s) (a := 0)
  refine rec_Decode.J6.ok ?_
  unfold rec_Decode.J6.wp
  rw [e8, s1, s2, mkB_size]
  have b1 : (0 : Int) ≤ ((endOf s : Nat) : Int) ∧ ((endOf s : Nat) : Int) ≤ (s.length : Int) := by omega
  have b2 : (0 : Int) ≤ 24 ∧ (24 : Int) ≤ ((endOf s : Nat) : Int) := by omega
  have b3 : (0 : Int) ≤ ((endOf s + 8 : Nat) : Int) ∧ ((endOf s + 8 : Nat) : Int) ≤ (s.length : Int) := by omega
  have b4 : (0 : Int) ≤ ((endOf s : Nat) : Int) ∧ ((endOf s : Nat) : Int) ≤ ((endOf s + 8 : Nat) : Int) := by omega
  have lb : ((s.take (endOf s)).drop 24).length = 8 * ((nOf s + 6) / 7) := by rw [List.length_drop, List.length_take]; omega
  have lp : (pl ((s.take (endOf s)).drop 24)).length = 7 * ((nOf s + 6) / 7) := by rw [pl_length _ _ (Nat.le_refl _), lb]; omega
  have ls : (sumAt s).length = 8 := by unfold sumAt; rw [List.length_drop, List.length_take]; omega
  have lps : (pl (sumAt s)).length = 7 := by rw [pl_length _ _ (Nat.le_refl _), ls]
  refine ⟨b1, b2, plain.c (by omega) fun g2 p2 => ⟨_, rfl, ?_⟩⟩
  have em : imin ((nOf s : Nat) : Int) ((mkB (pl ((s.take (endOf s)).drop 24))).size : Int) = ((nOf s : Nat) : Int) := by rw [imin_eq, mkB_size, lp]; omega
  rw [em]
  have s4 : sext (mkB (pl ((s.take (endOf s)).drop 24))) 0 ((nOf s : Nat) : Int) = mkB (rbodyOf s) := sext_mk (mkB (pl ((s.take (endOf s)).drop 24))) (a := 0)
  refine ⟨⟨by omega, by rw [mkB_size, lp]; omega⟩, b3, b4, plain.c (by omega) fun g3 p3 => ⟨_, rfl, b1, b2, ?_⟩⟩
  rw [s4]
  have lbo : (rbodyOf s).length ≤ 2000 := by unfold rbodyOf; rw [List.length_take]; have := hb.2.2.2; omega
  refine marked.c (m := 32) (d := 0) (by omega) fun g4 p4 => ⟨_, rfl, ?_⟩
  have hP4 := ((hP.trans p2).trans p3).trans p4
  refine xsIf_intro (fun h3 => ?_) fun h3 => ?_
  · have h3 : mk (rbodyOf s) 32 0 ≠ (s.take (endOf s)).drop 24 := fun e => by rw [e] at h3; simp at h3
    have := hq g4 hP4
    unfold rdec at this
    rw [if_neg hnot, if_pos (.inl h3)] at this; exact this
  have h3 : mk (rbodyOf s) 32 0 = (s.take (endOf s)).drop 24 := (mkB_inj _ _).1 (by simpa using h3)
  have s5 : sext (mkB (pl (sumAt s))) 0 4 = mkB ((pl (sumAt s)).take 4) := sext_mk (mkB (pl (sumAt s))) (a := 0) (b := 4)
  refine ⟨⟨by decide, by rw [mkB_size, lps]; decide⟩, b3, b4, ?_⟩
  rw [s5]
  refine marked.c (m := 48) (d := 0) (by rw [List.length_take]; omega) fun g5 p5 => ⟨_, rfl, ?_⟩
  have hP5 := hP4.trans p5
  refine xsIf_intro (fun h4 => ?_) fun h4 => ?_
  · have h4 : mk ((pl (sumAt s)).take 4) 48 0 ≠ sumAt s := fun e => by rw [e] at h4; simp at h4
    have := hq g5 hP5
    unfold rdec at this
    rw [if_neg hnot, if_pos (.inr h4)] at this; exact this
  have h4 : mk ((pl (sumAt s)).take 4) 48 0 = sumAt s := (mkB_inj _ _).1 (by simpa using h4)
  have hnot2 : ¬ (mk (rbodyOf s) 32 0 ≠ (s.take (endOf s)).drop 24 ∨ mk ((pl (sumAt s)).take 4) 48 0 ≠ sumAt s) := by
    rintro (h | h)
    · exact h h3
    · exact h h4
  refine rec_Decode.J11.ok ?_
  unfold rec_Decode.J11.wp
  rw [e8, s2, s3, mkB_size]
  refine ⟨b1, b3, b4, sum.c (by rw [List.length_take]; omega) fun g6 p6 => ⟨_, rfl, xsIf_intro (fun h5 => ?_) fun h5 => ?_⟩⟩
  · have h5 : sumW (s.take (endOf s)) ≠ sumAt s := fun e => by rw [e] at h5; simp at h5
    have := hq g6 (hP5.trans p6)
    unfold rdec at this
    rw [if_neg hnot, if_neg hnot2, if_pos h5] at this; exact this
  · have h5 : ¬ sumW (s.take (endOf s)) ≠ sumAt s := fun hne => by
      have h5 : mkB (sumW (s.take (endOf s))) = mkB (sumAt s) := by simpa using h5
      exact hne ((mkB_inj _ _).1 h5)
    have := hq g6 (hP5.trans p6)
    unfold rdec at this
    rw [if_neg hnot, if_neg hnot2, if_neg h5] at this; exact this
end Go.Gb
namespace Go.Gb
open Go.Proofs IntWalk

/-! ## A record's bytes, whatever stands behind them, are it again (no program in sight) -/

abbrev head21 (e l q : Nat) (k : UInt8) (n : Nat) : List UInt8 := headL e l q k n ++ List.replicate 6 0

theorem head21_length (e l q : Nat) (k : UInt8) (n : Nat) : (head21 e l q k n).length = 21 := by rw [List.length_append, headL_length, List.length_replicate]
theorem pad21 {l : List UInt8} (h : l.length = 21) : padTo l = l := by unfold padTo; rw [h]; simp

/-- What stands in bytes that begin with a record's first words. -/
theorem hd_of {e l q : Nat} {k : UInt8} {n : Nat} {r : List UInt8} : hdOf (mk (head21 e l q k n) 17 1 ++ r) = head21 e l q k n := by
  have hl : (mk (head21 e l q k n) 17 1).length = 24 := by rw [mk_length _ _ _ _ (Nat.le_refl _), head21_length]
  unfold hdOf
  rw [List.take_append_of_le_length (by omega), List.take_of_length_le (by omega), pl_mk _ _ _ _ (Nat.le_refl _), pad21 (head21_length _ _ _ _ _)]

theorem getput {n k : Nat} (h : n < 256 ^ k) : getL (putL n k) = n := by rw [getL_put, Nat.mod_eq_of_lt h]

theorem n_of {e l q : Nat} {k : UInt8} {n : Nat} {r : List UInt8} (hn : n < 65536) : nOf (mk (head21 e l q k n) 17 1 ++ r) = n := by
  unfold nOf
  rw [hd_of, show (head21 e l q k n).take 2 = putL n 2 from rfl, getput (by omega)]
theorem k_of {e l q : Nat} {k : UInt8} {n : Nat} {r : List UInt8} : kOf (mk (head21 e l q k n) 17 1 ++ r) = k := by
  unfold kOf
  rw [hd_of]; rfl
theorem st_of {e l q : Nat} {k : UInt8} {n : Nat} {r : List UInt8} (he : e < 4294967296) (hl : l < 4294967296) (hq : q < 4294967296) :
    stOf (mk (head21 e l q k n) 17 1 ++ r) 0 = e ∧ stOf (mk (head21 e l q k n) 17 1 ++ r) 1 = l ∧ stOf (mk (head21 e l q k n) 17 1 ++ r) 2 = q := by
  unfold stOf
  rw [hd_of]
  refine ⟨?_, ?_, ?_⟩
  · rw [show ((head21 e l q k n).drop (3 + 4 * 0)).take 4 = putL e 4 from rfl, getput (by omega)]
  · rw [show ((head21 e l q k n).drop (3 + 4 * 1)).take 4 = putL l 4 from rfl, getput (by omega)]
  · rw [show ((head21 e l q k n).drop (3 + 4 * 2)).take 4 = putL q 4 from rfl, getput (by omega)]

theorem begins_of {e l q : Nat} {k : UInt8} {n : Nat} {r : List UInt8} (hk : k ≠ 0) (hn : n ≤ 1024) : beginsP (mk (head21 e l q k n) 17 1 ++ r) := by
  have hl : (mk (head21 e l q k n) 17 1).length = 24 := by rw [mk_length _ _ _ _ (Nat.le_refl _), head21_length]
  refine ⟨?_, ?_, ?_, ?_⟩
  · rw [hd_of, List.take_append_of_le_length (by omega), List.take_of_length_le (by omega)]
  · rw [hd_of]
    intro b hb
    have : (head21 e l q k n).drop 15 = List.replicate 6 0 := rfl
    rw [this] at hb
    exact (List.mem_replicate.1 hb).2
  · rw [k_of]; exact hk
  · rw [n_of (by omega)]; exact hn

theorem sumW_pl (x : List UInt8) : (pl (sumW x)).take 4 = putL (sum32 x) 4 := by
  unfold sumW
  have h4 := putL_length 4 (sum32 x)
  rw [pl_mk _ _ _ _ (Nat.le_refl _)]
  unfold padTo
  rw [List.take_append_of_le_length (by omega), List.take_of_length_le (by omega)]

theorem rdec_back {e l q : Nat} {k : UInt8} {body t : List UInt8} (he : e < 4294967296) (hl : l < 4294967296) (hq : q < 4294967296) (hk : k ≠ 0) (hn : body.length ≤ 1024) :
    rdec (rcE e l q k body ++ t) = (e, l, q, k, body, 0) := by
  have hA := rcA_length e l q k body
  have hW := sumW_length (rcA e l q k body)
  have eS : rcE e l q k body ++ t = mk (head21 e l q k body.length) 17 1 ++ (mk body 32 0 ++ (sumW (rcA e l q k body) ++ t)) := by
    show (rcA e l q k body ++ sumW (rcA e l q k body)) ++ t = _
    rw [List.append_assoc]
    show (mk (head21 e l q k body.length) 17 1 ++ mk body 32 0) ++ _ = _
    rw [List.append_assoc]
  have eS2 : rcE e l q k body ++ t = rcA e l q k body ++ (sumW (rcA e l q k body) ++ t) := by unfold rcE; rw [List.append_assoc]
  have lH : (mk (head21 e l q k body.length) 17 1).length = 24 := by rw [mk_length _ _ _ _ (Nat.le_refl _), head21_length]
  have hN : nOf (rcE e l q k body ++ t) = body.length := by rw [eS]; exact n_of (by omega)
  have hE : endOf (rcE e l q k body ++ t) = (rcA e l q k body).length := by unfold endOf; rw [hN, hA]
  have hT : (rcE e l q k body ++ t).take (endOf (rcE e l q k body ++ t)) = rcA e l q k body := by
    rw [hE, eS2, List.take_append_of_le_length (Nat.le_refl _), List.take_length]
  have hS : sumAt (rcE e l q k body ++ t) = sumW (rcA e l q k body) := by
    unfold sumAt
    rw [hE, eS2, ← List.append_assoc, List.take_append_of_le_length (by rw [List.length_append, hW]; exact Nat.le_refl _), List.take_of_length_le (by rw [List.length_append, hW]; exact Nat.le_refl _), List.drop_append_of_le_length (Nat.le_refl _), List.drop_length]
    rfl
  have hD : (rcA e l q k body).drop 24 = mk body 32 0 := by
    unfold rcA
    rw [List.drop_append_of_le_length (by rw [lH]; exact Nat.le_refl _), List.drop_eq_nil_of_le (by rw [lH]; exact Nat.le_refl _)]; rfl
  have hB : rbodyOf (rcE e l q k body ++ t) = body := by
    unfold rbodyOf
    rw [hT, hD, hN, pl_mk _ _ _ _ (Nat.le_refl _)]
    unfold padTo
    rw [List.take_append_of_le_length (Nat.le_refl _), List.take_length]
  have hb : beginsP (rcE e l q k body ++ t) := by rw [eS]; exact begins_of hk hn
  unfold rdec
  rw [if_neg, if_neg, if_neg, hB]
  · obtain ⟨s0, s1, s2⟩ := st_of (k := k) (n := body.length) (r := mk body 32 0 ++ (sumW (rcA e l q k body) ++ t)) he hl hq
    rw [← eS] at s0 s1 s2
    rw [s0, s1, s2, eS, k_of]
  · rw [hT, hS]; exact fun h => h rfl
  · rw [hB, hT, hD, hS, sumW_pl]
    rintro (h | h)
    · exact h rfl
    · exact h rfl
  · rintro (h | h | h)
    · rw [eS, List.length_append, lH] at h; omega
    · exact h hb
    · rw [hE, eS2, List.length_append, List.length_append, hW] at h; omega
end Go.Gb
namespace Go.Gb
open Go.Proofs IntWalk

/-! ## wakes, RecFollows -/

theorem rcE_length (e l q : Nat) (k : UInt8) (body : List UInt8) : (rcE e l q k body).length = 8 * ((body.length + 6) / 7) + 32 := by
  unfold rcE
  rw [List.length_append, rcA_length, sumW_length]; omega

theorem follows.c {a0 a1 a2 b0 b1 b2 : Int} {h : Heap} {Q : Value → Heap → Prop} (h2 : 0 ≤ b2 ∧ b2 ≤ 4294967295) (g2 : 0 ≤ a2 ∧ a2 ≤ 4294967295) (hq : Q (.bool (decide (a0 = b0 ∧ b1 ≤ a1 ∧ a2 = b2 + 1))) h) :
    C Tryd.prog 28 #[.agg #[.int .u32 a0, .int .u32 a1, .int .u32 a2], .agg #[.int .u32 b0, .int .u32 b1, .int .u32 b2]] h Q := by
  have no : ¬ (a0 = b0 ∧ b1 ≤ a1 ∧ a2 = b2 + 1) → Q (.bool false) h := fun hn => by rw [decide_eq_false hn] at hq; exact hq
  refine rec_Stamp_Follows.ok (xsIf_intro (fun e1 => xsIf_intro (fun e2 => xsIf_intro (fun e3 => ?_) fun e3 => no ?_) fun e2 => no ?_) fun e1 => no ?_)
  · have e1 := of_decide_eq_true e1
    have e2 := of_decide_eq_true e2
    have e3 := of_decide_eq_true e3
    have hw : IntKind.u32.wrap (b2 + 1) = b2 + 1 := by
      simp only [IntKind.wrap]
      simp (config := { decide := true }) [IntKind.bits, IntKind.signed]
      omega
    rw [hw]
    have : decide (a2 = b2 + 1) = decide (a0 = b0 ∧ b1 ≤ a1 ∧ a2 = b2 + 1) := by
      rw [Bool.eq_iff_iff, decide_eq_true_eq, decide_eq_true_eq]
      exact ⟨fun h => ⟨e1, e2, h⟩, fun h => h.2.2⟩
    rw [this]; exact hq
  · have e3 : b2 = 4294967295 := Classical.byContradiction fun h => of_decide_eq_false e3 h
    rintro ⟨_, _, h⟩; omega
  · exact fun h => of_decide_eq_false e2 h.2.1
  · exact fun h => of_decide_eq_false e1 h.1

theorem wakes12.c {h : Heap} {Q : Value → Heap → Prop} (hq : ∀ h', Part h h' → Q (.bool true) h') : C Tryd.prog 23 #[] h Q := by
  have hR : rcR 1 0 2 5 [] = (rcE 1 0 2 5 [], 0) := if_pos ⟨by decide, by decide⟩
  have hl := rcE_length 1 0 2 5 []
  refine gabionlaw12_wakes.ok (encode.c (e := 1) (l := 0) (q := 2) (k := 5) (body := []) (by decide) (by decide) (by decide) (by decide) fun g p => ?_)
  rw [hR]
  refine ⟨_, _, rfl, by rw [mkB_size, hl]; decide, ?_⟩
  rw [show ({ data := #[UInt8.ofNat 109, UInt8.ofNat 111, UInt8.ofNat 114, UInt8.ofNat 101] } : ByteArray) = mkB [109, 111, 114, 101] from rfl]
  show C Tryd.prog 26 #[.string (mkB (rcE 1 0 2 5 []) ++ mkB [109, 111, 114, 101])] g _
  rw [mkB_append]
  refine decode.c (by rw [List.length_append, hl]; decide) fun g2 p2 => ?_
  rw [rdec_back (by decide) (by decide) (by decide) (by decide) (by decide)]
  refine ⟨_, _, _, _, _, _, rfl, xsIf_t rfl (xsIf_t (by show decide (((mkB (rcE 1 0 2 5 [])).size : Int) = 32) = true; rw [mkB_size, hl]; rfl) ?_)⟩
  refine size.c (k := 5) (body := []) (by decide) ⟨_, rfl, xsIf_t (by decide) (xsIf_t rfl (xsIf_t (by decide) (xsIf_t (by decide) ?_)))⟩
  exact follows.c (by decide) (by decide) ⟨_, rfl, hq g2 (p.trans p2)⟩

theorem list3 {l : List Int} (h : l.length = 3) : ∃ a b c, l = [a, b, c] := by
  match l, h with
  | [a, b, c], _ => exact ⟨a, b, c, rfl⟩

theorem u32_range {x : Int} (h : IntKind.u32.min ≤ x ∧ x ≤ IntKind.u32.max) : 0 ≤ x ∧ x ≤ 4294967295 := h

end Go.Gb
namespace Go.Gb
open Go.Proofs IntWalk

/-! ## The marks of a record's words (no program in sight) -/

end Go.Gb
namespace Go.Gb
open Go.Proofs IntWalk

/-! ## RecWords -/

section
variable {h0 : Heap} {pick : Int} {A B : List UInt8}

abbrev okQ (h0 : Heap) : Value → Heap → Prop := fun v h' => v = .bool true ∧ Part h0 h'

end

theorem cutTake (s : ByteArray) (hs : s.size ≤ 140737488351232) (n : Nat) (hn : n ≤ 100000) : sext s 0 (imin (s.size : Int) n) = mkB (s.data.toList.take n) := by
  obtain ⟨m, hm⟩ : ∃ m : Nat, imin (s.size : Int) n = m := ⟨(imin (s.size : Int) n).toNat, by rw [imin_eq]; omega⟩
  rw [hm]
  have := sext_mk s (a := 0) (b := m)
  rw [List.drop_zero] at this
  rw [show sext s 0 (m : Int) = _ from this]
  congr 1
  rw [imin_eq] at hm
  by_cases h : n ≤ s.size
  · have : m = n := by omega
    rw [this]
  · rw [List.take_of_length_le (by rw [bytes_len]; omega), List.take_of_length_le (by rw [bytes_len]; omega)]

end Go.Gb
namespace Go.Gb
open Go.Proofs IntWalk

/-! ## RecBack -/

theorem hd_two {s : List UInt8} (h : 24 ≤ s.length) : (hdOf s).take 2 = s.take 2 := by
  unfold hdOf
  rw [pl_cons (by rw [List.length_take]; omega)]
  rw [List.take_append_of_le_length (by simp; omega), List.take_take, List.take_take]
  rfl

theorem n_two {s x : List UInt8} (h : 24 ≤ s.length) (h' : 24 ≤ x.length) (e : s.take 2 = x.take 2) : nOf s = nOf x := by
  unfold nOf
  rw [hd_two h, hd_two h', e]

theorem err_of {s : List UInt8} (h : (rdec s).2.2.2.2.2 = 0) : 24 ≤ s.length ∧ endOf s + 8 ≤ s.length ∧ sumW (s.take (endOf s)) = sumAt s := by
  unfold rdec at h
  split at h
  · exact absurd h (by decide)
  · rename_i hc
    split at h
    · exact absurd h (by decide)
    · split at h
      · exact absurd h (by decide)
      · rename_i hs
        refine ⟨Nat.le_of_not_lt fun e => hc (.inl e), Nat.le_of_not_lt fun e => hc (.inr (.inr e)), Classical.byContradiction fun e => hs e⟩

section
variable {e l q : Nat} {k : UInt8} {body : List UInt8}

theorem rcE_n (hn : body.length ≤ 1024) : nOf (rcE e l q k body) = body.length := by
  have : rcE e l q k body = mk (head21 e l q k body.length) 17 1 ++ (mk body 32 0 ++ sumW (rcA e l q k body)) := by
    show (mk (head21 e l q k body.length) 17 1 ++ mk body 32 0) ++ _ = _
    rw [List.append_assoc]
  rw [this]; exact n_of (by omega)

theorem back_short (hn : body.length ≤ 1024) {m : Nat} (hm : m < (rcE e l q k body).length) : (rdec ((rcE e l q k body).take m)).2.2.2.2.2 ≠ 0 := by
  intro h
  obtain ⟨h1, h2, -⟩ := err_of h
  have hl := rcE_length e l q k body
  have hml : ((rcE e l q k body).take m).length = m := by rw [List.length_take]; omega
  rw [hml] at h1 h2
  have hN : nOf ((rcE e l q k body).take m) = body.length := by
    rw [n_two (x := rcE e l q k body) (by rw [hml]; exact h1) (by omega) (by rw [List.take_take, Nat.min_eq_left (by omega)]), rcE_n hn]
  unfold endOf at h2
  rw [hN] at h2
  omega

theorem back_set (hn : body.length ≤ 1024) {i : Nat} {y : UInt8} (hi2 : 2 ≤ i) (hi : i < (rcE e l q k body).length) (hy : (rcE e l q k body)[i] ≠ y) : (rdec ((rcE e l q k body).set i y)).2.2.2.2.2 ≠ 0 := by
  intro h
  obtain ⟨h1, h2, h3⟩ := err_of h
  have hl := rcE_length e l q k body
  have lA := rcA_length e l q k body
  have lW := sumW_length (rcA e l q k body)
  have hN : nOf ((rcE e l q k body).set i y) = body.length := by
    rw [n_two (x := rcE e l q k body) h1 (by omega) (by rw [List.take_set, List.set_eq_of_length_le (by rw [List.length_take]; omega)]), rcE_n hn]
  have hE : endOf ((rcE e l q k body).set i y) = (rcA e l q k body).length := by unfold endOf; rw [hN, lA]
  unfold sumAt at h3
  rw [hE] at h3
  have tA : (rcE e l q k body).take (rcA e l q k body).length = rcA e l q k body := by unfold rcE; rw [List.take_append_of_le_length (Nat.le_refl _), List.take_length]
  have tW : ((rcE e l q k body).take ((rcA e l q k body).length + 8)).drop (rcA e l q k body).length = sumW (rcA e l q k body) := by
    unfold rcE
    rw [List.take_of_length_le (by rw [List.length_append, lW]; exact Nat.le_refl _), List.drop_append_of_le_length (Nat.le_refl _), List.drop_length]; rfl
  by_cases hA : i < (rcA e l q k body).length
  · have x1 : ((rcE e l q k body).set i y).take (rcA e l q k body).length = (rcA e l q k body).set i y := by rw [List.take_set, tA]
    have x2 : (((rcE e l q k body).set i y).take ((rcA e l q k body).length + 8)).drop (rcA e l q k body).length = sumW (rcA e l q k body) := by
      rw [List.take_set, List.drop_set, if_pos hA, tW]
    rw [x1, x2] at h3
    have h4 := congrArg (fun x => getL ((pl x).take 4)) h3
    simp only [sumW_pl] at h4
    have s1 := sum32_lt ((rcA e l q k body).set i y)
    have s2 := sum32_lt (rcA e l q k body)
    rw [getput (by omega), getput (by omega)] at h4
    have hyA : (rcA e l q k body)[i] ≠ y := by
      intro he
      apply hy
      rw [← he]
      unfold rcE
      exact List.getElem_append_left hA
    exact sum_set sum32 (fun ps bs x y h => sum32_tells ps bs h) hA hyA h4.symm
  · have x1 : ((rcE e l q k body).set i y).take (rcA e l q k body).length = rcA e l q k body := by
      rw [List.take_set, List.set_eq_of_length_le (by rw [List.length_take]; omega), tA]
    have x2 : (((rcE e l q k body).set i y).take ((rcA e l q k body).length + 8)).drop (rcA e l q k body).length = (sumW (rcA e l q k body)).set (i - (rcA e l q k body).length) y := by
      rw [List.take_set, List.drop_set, if_neg hA, tW]
    rw [x1, x2] at h3
    have hiW : i - (rcA e l q k body).length < (sumW (rcA e l q k body)).length := by rw [lW]; omega
    have h4 := congrArg (fun x : List UInt8 => x[i - (rcA e l q k body).length]?) h3
    simp only [List.getElem?_set_self hiW, List.getElem?_eq_getElem hiW, Option.some.injEq] at h4
    apply hy
    rw [← h4]
    unfold rcE
    exact List.getElem_append_right (by omega)
end
end Go.Gb
namespace Go.Gb
open Go.Proofs IntWalk

theorem u8_range {x : Int} (h : IntKind.u8.min ≤ x ∧ x ≤ IntKind.u8.max) : 0 ≤ x ∧ x ≤ 255 := h

theorem back7 {h0 h : Heap} {e l q : Nat} {k : UInt8} {body : List UInt8} {p y : Nat} {a2 : Int} (hn : body.length ≤ 1000) (hp : p < 256) (hy : y < 256) (hP : Part h0 h) :
    gabionlaw12_RecBack.J7 (mkB (rcE e l q k body)) (p : Int) (y : Int) a2 h (okQ h0) := by
  have hL := rcE_length e l q k body
  obtain ⟨R, hR⟩ : ∃ R, rcE e l q k body = R := ⟨_, rfl⟩
  have short := fun (m : Nat) => back_short (e := e) (l := l) (q := q) (k := k) (body := body) (by omega) (m := m)
  have sets := fun (i : Nat) (z : UInt8) => back_set (e := e) (l := l) (q := q) (k := k) (body := body) (by omega) (i := i) (y := z)
  rw [hR] at hL short sets ⊢
  have hsz : (mkB R).size = R.length := mkB_size R
  refine gabionlaw12_RecBack.J7.ok ?_
  unfold gabionlaw12_RecBack.J7.wp
  rw [hsz]
  have ep : IntKind.i64.wrap (p : Int) = (p : Int) := i64_in _ (by omega)
  have hmod : p % R.length < R.length := Nat.mod_lt _ (by omega)
  have e1 : IntKind.i64.wrap (IntKind.i64.wrap ((R.length : Int) - 1) - irem (IntKind.i64.wrap (p : Int)) (R.length : Int)) = ((R.length - 1 - p % R.length : Nat) : Int) := by
    rw [ep, irem_nat, i64_in ((R.length : Int) - 1) (by omega), i64_in _ (by omega)]; omega
  rw [e1]
  have s1 : sext (mkB R) 0 ((R.length - 1 - p % R.length : Nat) : Int) = mkB (R.take (R.length - 1 - p % R.length)) := sext_mk (mkB R) (a := 0)
  rw [s1]
  refine ⟨by omega, ⟨by omega, by omega⟩, decode.c (by rw [List.length_take]; omega) fun g pg => ⟨_, _, _, _, _, _, rfl, xsIf_f (decide_eq_false (short _ (by omega))) (xsIf_intro (fun _ => ⟨rfl, hP.trans pg⟩) fun hy0 => ?_)⟩⟩
  have hy0 : y ≠ 0 := fun e => of_decide_eq_false hy0 (by rw [e]; rfl)
  intro b c hb hcs
  have e2 : IntKind.i64.wrap (((mkB R).size : Int) - 2) = ((R.length - 2 : Nat) : Int) := by rw [hsz, i64_in _ (by omega)]; omega
  have hm2 : p % (R.length - 2) < R.length - 2 := Nat.mod_lt _ (by omega)
  have e3 : IntKind.i64.wrap (2 + irem (IntKind.i64.wrap (p : Int)) ((R.length - 2 : Nat) : Int)) = ((2 + p % (R.length - 2) : Nat) : Int) := by
    rw [ep, irem_nat, i64_in _ (by omega)]; omega
  rw [e2, e3, hsz, Int.toNat_natCast]
  have hi : 2 + p % (R.length - 2) < R.length := by omega
  have hi2 : 2 ≤ 2 + p % (R.length - 2) := by omega
  generalize 2 + p % (R.length - 2) = i at hi hi2
  rw [hsz] at hcs
  refine ⟨by omega, ⟨by omega, by omega⟩, b, 0, rfl, (R[i].toNat : Int), ?_, ⟨by omega, by omega⟩, b, 0, rfl, ?_, ?_⟩
  · unfold Heap.cell
    rw [upd_same]
    show (byteVals R ++ List.replicate (c - R.length) (Value.int .u8 0)).toArray[0 + i * 1]? = _
    rw [List.getElem?_toArray, Nat.zero_add, Nat.mul_one, List.getElem?_append_left (by rw [byteVals_length]; exact hi), byteVals_get, List.getElem?_eq_getElem hi]
    rfl
  · refine ⟨_, _, _, _, upd_same _ _ _, ?_, .inl ?_⟩
    · show 0 + i * 1 + 1 ≤ (byteVals R ++ List.replicate (c - R.length) (Value.int .u8 0)).toArray.size
      rw [List.size_toArray, List.length_append, byteVals_length]; omega
    · omega
  · have hbt := byte_lt R[i]
    have hxor : R[i].toNat ^^^ y < 256 := xor_lt (w := 8) hbt hy
    rw [ixorU (k := .u8) rfl (show R[i].toNat < 2 ^ 8 from hbt) (show y < 2 ^ 8 from hy)]
    obtain ⟨z, hz2⟩ : ∃ z : UInt8, z.toNat = R[i].toNat ^^^ y := ⟨UInt8.ofNat (R[i].toNat ^^^ y), by rw [UInt8.toNat_ofNat']; exact Nat.mod_eq_of_lt hxor⟩
    rw [← hz2]
    have hne : R[i] ≠ z := by
      intro e
      rw [← e] at hz2
      have : R[i].toNat ^^^ R[i].toNat = R[i].toNat ^^^ (R[i].toNat ^^^ y) := by rw [← hz2]
      rw [Nat.xor_self, ← Nat.xor_assoc, Nat.xor_self, Nat.zero_xor] at this
      omega
    refine ⟨R.set i z, by rw [List.length_set], .inr ⟨b, 0, rfl, fun j hj => ?_⟩, ?_⟩
    · rw [byteVals_length, List.length_set] at hj
      unfold Heap.cell Heap.put
      simp only [if_true, upd_same, Option.map_some, putObj]
      show (setL (byteVals R ++ List.replicate (c - R.length) (Value.int .u8 0)).toArray.toList (0 + i * 1) [.int .u8 z.toNat]).toArray[0 + j]? = _
      rw [List.getElem?_toArray, setL_get _ _ _ _ (by simp [byteVals]; omega), ← byteVals_set, List.getElem?_set]
      simp only [List.length_cons, List.length_nil, Nat.zero_add, Nat.mul_one]
      by_cases e : i = j
      · subst e; rw [byteVals_length]; simp; omega
      · rw [if_neg (by omega), if_neg e, List.getElem?_append_left (by rw [byteVals_length]; exact hj)]
    · have hpart : Part h0 ((upd g b (.cells (byteVals R ++ List.replicate (c - R.length) (Value.int .u8 0)).toArray 5 (c, c + 1))).put b (0 + i * 1) [.int .u8 z.toNat]) := ((hP.trans pg).upd' ((hP.trans pg).none hb) _).put ((hP.trans pg).none hb) _ _
      refine (decode.c (s := R.set i z) (by rw [List.length_set]; omega) fun g2 p2 => ⟨_, _, _, _, _, _, rfl, ?_, hpart.trans p2⟩)
      rw [decide_eq_true (sets i z hi2 hi hne)]

theorem gabionlaw12_RecBack.law (ns : List Int) (hnl : ns.length = 3) (hn : ∀ x ∈ ns, IntKind.u32.min ≤ x ∧ x ≤ IntKind.u32.max) (s : ByteArray) (hs : s.size ≤ 140737488351232) (as' : List Int) (hal : as'.length = 3) (ha : ∀ x ∈ as', IntKind.u8.min ≤ x ∧ x ≤ IntKind.u8.max) (h : Heap) :
    C Tryd.prog 9 #[.agg (ns.map (Value.int .u32)).toArray, .string s, .agg (as'.map (Value.int .u8)).toArray] h fun v h' => v = .bool true ∧ Part h h' := by
  obtain ⟨n0, n1, n2, rfl⟩ := list3 hnl
  obtain ⟨a0, a1, a2, rfl⟩ := list3 hal
  have r0 := u32_range (hn n0 (by simp)); have r1 := u32_range (hn n1 (by simp)); have r2 := u32_range (hn n2 (by simp))
  have q0 := u8_range (ha a0 (by simp)); have q1 := u8_range (ha a1 (by simp)); have q2 := u8_range (ha a2 (by simp))
  obtain ⟨e, rfl⟩ : ∃ e : Nat, n0 = e := ⟨n0.toNat, by omega⟩
  obtain ⟨l, rfl⟩ : ∃ e : Nat, n1 = e := ⟨n1.toNat, by omega⟩
  obtain ⟨q, rfl⟩ : ∃ e : Nat, n2 = e := ⟨n2.toNat, by omega⟩
  obtain ⟨p, rfl⟩ : ∃ e : Nat, a0 = e := ⟨a0.toNat, by omega⟩
  obtain ⟨y, rfl⟩ : ∃ e : Nat, a1 = e := ⟨a1.toNat, by omega⟩
  obtain ⟨w, rfl⟩ : ∃ e : Nat, a2 = e := ⟨a2.toNat, by omega⟩
  obtain ⟨k, hk, hk0⟩ : ∃ k : UInt8, ior .u8 1 (w : Int) = (k.toNat : Int) ∧ k ≠ 0 := by
    rw [show (1 : Int) = ((1 : Nat) : Int) from rfl, iorU (k := .u8) rfl (show 1 < 2 ^ 8 by decide) (show w < 2 ^ 8 by omega)]
    have hlt : 1 ||| w < 2 ^ 8 := Nat.or_lt_two_pow (by decide) (by omega)
    have ht : (UInt8.ofNat (1 ||| w)).toNat = 1 ||| w := by rw [UInt8.toNat_ofNat']; exact Nat.mod_eq_of_lt hlt
    refine ⟨UInt8.ofNat (1 ||| w), by rw [ht], fun e0 => ?_⟩
    have h2 := congrArg UInt8.toNat e0
    rw [ht] at h2
    have h3 : (1 : Nat) ≤ 1 ||| w := Nat.left_le_or
    rw [h2] at h3
    exact absurd h3 (by decide)
  obtain ⟨c0, -⟩ := cut300 s hs 900 (by decide)
  have ec : sext s 0 (imin (s.size : Int) 900) = mkB (s.data.toList.take 900) := cutTake s hs 900 (by decide)
  have hb : (s.data.toList.take 900).length ≤ 900 := by rw [List.length_take]; omega
  generalize hbd : s.data.toList.take 900 = body at ec hb
  have hR : rcR e l q k body = (rcE e l q k body, 0) := if_pos ⟨hk0, by omega⟩
  have hL := rcE_length e l q k body
  refine gabionlaw12_RecBack.ok ⟨c0, gabionlaw12_of.ok ⟨_, _, _, rfl, ?_⟩⟩
  rw [hk, ec]
  refine encode.c (by omega) (by omega) (by omega) (by omega) fun g pg => ?_
  rw [hR]
  refine ⟨_, _, rfl, by rw [mkB_size, mkB_size]; dsimp only; omega, ?_⟩
  show C Tryd.prog 26 #[.string (mkB (rcE e l q k body) ++ mkB body)] g _
  rw [mkB_append]
  refine decode.c (by rw [List.length_append]; omega) fun g2 p2 => ?_
  rw [rdec_back (by omega) (by omega) (by omega) hk0 (by omega)]
  refine ⟨_, _, _, _, _, _, rfl, wakes12.c fun g3 p3 => ⟨_, rfl, xsIf_f rfl (xsIf_f rfl (xsIf_f rfl (gabionlaw12_of.ok ⟨_, _, _, rfl, xsIf_f (by simp) (xsIf_f (by simp) ?_)⟩)))⟩⟩
  refine size.c (by omega) ⟨_, rfl, xsIf_f (decide_eq_false ?_) (back7 (by omega) (by omega) (by omega) ((pg.trans p2).trans p3))⟩
  rw [if_pos ⟨hk0, by omega⟩]
  show ¬ (((mkB (rcE e l q k body)).size : Int) ≠ _)
  rw [mkB_size, hL]; omega
end Go.Gb
