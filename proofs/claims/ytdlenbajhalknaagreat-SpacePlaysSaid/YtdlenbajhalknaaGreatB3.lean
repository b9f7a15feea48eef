/- Own texts for the seat: Df1 G2 G3 G4 G8 Crc1 Crc2 Crc3 G1 G5 G6 G7 G10 G11 G12 G14. -/
import Derived.Test.YtdlenbajhalknaaGreatW
import Derived.Test.YtdlenbajhalknaaGreatA6
import Derived.Test.YtdlenbajhalknaaGreatA10
import Derived.Test.YtdlenbajhalknaaGreatB1
set_option linter.unusedVariables false
set_option linter.unusedSimpArgs false
set_option linter.unnecessarySimpa false
set_option linter.deprecated false
namespace Go.Gb
open Go.Proofs IntWalk
theorem setL_before : ∀ (vs cs : List Value) (o j : Nat), j < o → (setL cs o vs)[j]? = cs[j]? := by
 intro vs
 induction vs with
 | nil => intro cs o j _; rfl
 | cons v r ih =>
  intro cs o j h
  show (setL (cs.set o v) (o + 1) r)[j]? = _
  rw [ih _ _ _ (by omega), List.getElem?_set_ne (by omega)]
section
variable {h : Heap} {Q : QT} {b0 cp : Nat} {cs : List Value} {ws : List Nat} {p : Nat → Bool} {del : Nat} {da dc : Array Value}
def DelOk (h : Heap) (b0 : Nat) (ws : List Nat) (p : Nat → Bool) (del : Nat) (da dc : Array Value) : Prop :=
 ∀ (h' : Heap) (Q' : QT) (w : Nat), w ∈ ws → (∀ k, k ≠ b0 → h' k = h k) → Q' (.bool (p w)) h' → CT del (List.toArray (da.toList ++ [.int .i64 (w : Int)] ++ dc.toList)) h' Q'
def Firsts (cs : List Value) (i : Nat) (l : List Nat) : Prop := i = l.length ∧ ∀ k, k < l.length → cs[k]? = some (.int .i64 ((l.getD k 0 : Nat) : Int))
def Lasts (cs : List Value) (j : Nat) (ws : List Nat) : Prop := ∀ k, j ≤ k → k < ws.length → cs[k]? = some (.int .i64 ((ws.getD k 0 : Nat) : Int))
theorem getD_mem {ws : List Nat} {k : Nat} (h : k < ws.length) : ws.getD k 0 ∈ ws := by rw [List.getD_eq_getElem?_getD]; simp [h]
theorem take_getD {ws : List Nat} {k : Nat} (h : k < ws.length) : ws.take (k + 1) = ws.take k ++ [ws.getD k 0] := by rw [List.take_succ, List.getD_eq_getElem?_getD]; simp [h]
theorem K195.L2.c (hg : goOk Tryz.prog del = true) (hd : DelOk h b0 ws p del da dc) (hb : Blk h b0 cs) (hl : Lasts cs 0 ws) (hn : ws.length < 1000000) : ∀ (j k : Nat), k + j = ws.length → (∀ w ∈ ws.take k, p w = false) →
  (∀ i, i < ws.length → p (ws.getD i 0) = true → (∀ w ∈ ws.take i, p w = false) → Q (.int .i64 (i : Int)) h) → ((∀ w ∈ ws, p w = false) → Q (.int .i64 (-1)) h) → K195.L2 (some ⟨b0, 0, none⟩) ws.length cp del da dc (ws.length : Int) (k : Int) h Q := by
 intro j
 induction j with
 | zero =>
  intro k hk hp h1 h2
  apply K195.L2.ok
  have e : k = ws.length := by omega
  subst e
  rw [List.take_length] at hp
  exact xsIf_f (by simp) (h2 hp)
 | succ j ih =>
  intro k hk hp h1 h2
  apply K195.L2.ok
  have hk' : k < ws.length := by omega
  have e2 : IntKind.i64.wrap ((k : Int) + 1) = ((k + 1 : Nat) : Int) := by rw [i64_in _ (by omega)]; omega
  refine xsIf_t (decide_eq_true (by omega)) ⟨⟨by omega, by omega⟩, b0, 0, rfl, _, by rw [hb.cell, show 0 + (k : Int).toNat * 1 = k by omega]; exact hl k (by omega) hk', xsIf_t hg (hd h _ _ (getD_mem hk') (fun _ _ => rfl) ⟨_, rfl, xsIf_intro (fun hp1 => h1 k hk' hp1 hp) (fun hp1 => ?_)⟩)⟩
  rw [e2]
  refine ih (k + 1) (by omega) ?_ h1 h2
  rw [take_getD hk']
  intro w hw
  rcases List.mem_append.1 hw with h3 | h3
  ·exact hp w h3
  ·simp only [List.mem_singleton] at h3; rw [h3]; exact hp1
theorem K182.L5.c (hg : goOk Tryz.prog del = true) (hd : DelOk h b0 ws p del da dc) (hn : ws.length < 1000000) (hcp : ws.length ≤ cp)
  (hq : ∀ h' cs', Blk h' b0 cs' → Firsts cs' (ws.filter fun w => !p w).length (ws.filter fun w => !p w) → (∀ k, k ≠ b0 → h' k = h k) → Q (.slice (some ⟨b0, 0, none⟩) (ws.filter fun w => !p w).length cp) h') :
  ∀ (m j i : Nat) (h2 : Heap) (cs : List Value), j + m = ws.length → i ≤ j → Blk h2 b0 cs → cs.length = cp → Firsts cs i ((ws.take j).filter fun w => !p w) → Lasts cs j ws → (∀ k, k ≠ b0 → h2 k = h k) →
   K182.L5 (some ⟨b0, 0, none⟩) ws.length cp del da dc (i : Int) (j : Int) h2 Q := by
 intro m
 induction m with
 | zero =>
  intro j i h2 cs hj hij hb hlen hf hl hs
  have e : j = ws.length := by omega
  subst e
  rw [List.take_length] at hf
  apply K182.L5.ok
  have hbase : slBase (some (⟨b0, 0, none⟩ : Addr)) (cp : Int) 0 1 = some ⟨b0, 0, none⟩ := by unfold slBase; split <;> simp [Addr.add]
  have ei : ((i : Int) - 0).toNat = i := by omega
  have ec : ((cp : Int) - 0).toNat = cp := by omega
  refine xsIf_f (by simp) ⟨⟨by omega, by omega⟩, fun h0 => ⟨⟨by omega, by omega⟩, ?_⟩, fun h0 => ?_⟩
  ·rw [hbase, ei, ec, hf.1]
   refine hq h2 cs hb ?_ hs
   exact ⟨rfl, hf.2⟩
  ·have hb1 : slBase (some (⟨b0, 0, none⟩ : Addr)) (cp : Int) (i : Int) 1 = some ⟨b0, i, none⟩ := by
    unfold slBase
    rw [if_neg (by omega)]
    simp [Addr.add]
    try omega
   rw [hb1]
   refine ⟨b0, i, rfl, hb.can (by omega), ⟨by omega, by omega⟩, ?_⟩
   rw [hbase, ei, ec, hf.1]
   refine hq _ _ (hb.put _ _) ⟨rfl, fun k hk => ?_⟩ fun k hk => by rw [put_other _ _ _ hk]; exact hs k hk
   have hki : k < i := by rw [hf.1]; exact hk
   rw [hf.1] at hki
   rw [setL_before _ _ _ _ hki]
   exact hf.2 k hk
 | succ m ih =>
  intro j i h2 cs hj hij hb hlen hf hl hs
  apply K182.L5.ok
  have hj' : j < ws.length := by omega
  have e1 : IntKind.i64.wrap ((i : Int) + 1) = ((i + 1 : Nat) : Int) := by rw [i64_in _ (by omega)]; omega
  have e2 : IntKind.i64.wrap ((j : Int) + 1) = ((j + 1 : Nat) : Int) := by rw [i64_in _ (by omega)]; omega
  have hc := hl j (by omega) hj'
  refine xsIf_t (decide_eq_true (by omega)) ⟨⟨by omega, by omega⟩, b0, 0, rfl, _, by rw [hb.cell, show 0 + (j : Int).toNat * 1 = j by omega]; exact hc, xsIf_t hg (hd h2 _ _ (getD_mem hj') hs ⟨_, rfl, xsIf_intro (fun hp1 => ?_) (fun hp1 => ?_)⟩)⟩
  ·have hp1 : p (ws.getD j 0) = false := by rw [Bool.not_eq_true'] at hp1; exact hp1
   have hil : i < cs.length := by omega
   refine ⟨⟨by omega, by omega⟩, b0, 0, rfl, hb.can (by omega), ?_⟩
   rw [e1, e2, show 0 + (i : Int).toNat * 1 = i by omega]
   have hb2 := hb.put i [.int .i64 ((ws.getD j 0 : Nat) : Int)]
   rw [setL_one] at hb2
   refine ih (j + 1) (i + 1) _ _ (by omega) (by omega) hb2 (by rw [List.length_set]; exact hlen) ?_ ?_ fun k hk => by rw [put_other _ _ _ hk]; exact hs k hk
   ·rw [take_getD hj', List.filter_append]
    have hfs : List.filter (fun w => !p w) [ws.getD j 0] = [ws.getD j 0] := by rw [List.filter_cons, hp1]; rfl
    rw [hfs]
    refine ⟨by rw [List.length_append, ← hf.1]; rfl, fun k hk => ?_⟩
    rw [List.length_append, ← hf.1] at hk
    have hk : k < i + 1 := hk
    rw [List.getElem?_set]
    by_cases e : i = k
    ·subst e
     rw [if_pos rfl, if_pos hil]
     rw [List.getD_eq_getElem?_getD (l := List.filter _ _ ++ _), List.getElem?_append_right (by rw [← hf.1]; omega), ← hf.1]
     simp
    ·rw [if_neg e, hf.2 k (by rw [← hf.1]; omega)]
     rw [List.getD_eq_getElem?_getD (l := List.filter _ _ ++ _), List.getElem?_append_left (by rw [← hf.1]; omega), ← List.getD_eq_getElem?_getD]
   ·intro k hk1 hk2
    rw [List.getElem?_set_ne (by omega)]
    exact hl k (by omega) hk2
  ·have hp1 : p (ws.getD j 0) = true := by rw [Bool.not_eq_false'] at hp1; exact hp1
   rw [e2]
   refine ih (j + 1) i h2 cs (by omega) (by omega) hb hlen ?_ (fun k hk1 hk2 => hl k (by omega) hk2) hs
   rw [take_getD hj', List.filter_append]
   have hfs : List.filter (fun w => !p w) [ws.getD j 0] = [] := by rw [List.filter_cons, hp1]; rfl
   rw [hfs, List.append_nil]
   exact hf
end
end Go.Gb
namespace Go.Gb
open Go.Proofs IntWalk
def putL : Nat → Nat → List UInt8
 | _, 0 => []
 | n, k + 1 => UInt8.ofNat n :: putL (n / 256) k
def getL : List UInt8 → Nat
 | [] => 0
 | b :: r => b.toNat + 256 * getL r
theorem putL_length (k : Nat) : ∀ n, (putL n k).length = k := by
 induction k with
 | zero => intro n; rfl
 | succ k ih => intro n; simp [putL, ih]
theorem getL_put (k : Nat) : ∀ n, getL (putL n k) = n % 256 ^ k := by
 induction k with
 | zero => intro n; simp [putL, getL, Nat.mod_one]
 | succ k ih =>
  intro n
  simp only [putL, getL, ih]
  rw [Nat.pow_succ, Nat.mul_comm (256 ^ k) 256, Nat.mod_mul, UInt8.toNat_ofNat']
theorem getL_lt (l : List UInt8) : getL l < 256 ^ l.length := by
 induction l with
 | nil => simp [getL]
 | cons b r ih =>
  simp only [getL, List.length_cons, Nat.pow_succ]
  have := b.toNat_lt
  omega
theorem putL_get (l : List UInt8) : putL (getL l) l.length = l := by
 induction l with
 | nil => rfl
 | cons b r ih =>
  simp only [getL, List.length_cons, putL]
  have := b.toNat_lt
  have e1 : (b.toNat + 256 * getL r) / 256 = getL r := by omega
  rw [e1, ih]
  congr 1
  apply UInt8.toNat_inj.1
  rw [UInt8.toNat_ofNat']
  omega
theorem getL_append (a b : List UInt8) : getL (a ++ b) = getL a + 256 ^ a.length * getL b := by
 induction a with
 | nil => simp [getL]
 | cons x a ih => simp only [List.cons_append, getL, ih, List.length_cons, Nat.pow_succ]; rw [Nat.mul_add, Nat.mul_comm (256 ^ a.length) 256, Nat.mul_assoc]; omega
theorem byteVals_snoc (bs : List UInt8) (n : Nat) : byteVals bs ++ [Value.int .u8 (IntKind.u8.wrap (n : Int))] = byteVals (bs ++ [UInt8.ofNat n]) := by
 unfold byteVals
 rw [List.map_append]
 congr 1
theorem Own.str {h0 h : Heap} {T : TypeId} {a : Option Addr} {n c : Nat} {bs : List UInt8} {K : ByteArray → Prop} (w : Own h0 h T 1 a n c (byteVals bs)) (hk : K ⟨bs.toArray⟩) : xsStr h a n K :=
 ⟨bs, by have := w.len; simpa [byteVals] using this, w.reads, hk⟩
theorem bytes_cells : cellSize Tryz.prog 5 = 1 ∧ (cellZero Tryz.prog 5).length = 1 ∧ cellBytes Tryz.prog 5 = 1 := ⟨by kernel_rfl, by kernel_rfl, by kernel_rfl⟩
theorem Own.byte {h0 h : Heap} {a : Option Addr} {n c b1 v : Nat} {bs : List UInt8} {K : Option Addr → Nat → Nat → Heap → Prop} (w : Own h0 h 5 1 a n c (byteVals bs)) (hn : n ≤ 1000000) (hb : h b1 = none)
  (hk : ∀ a' c' h', Own h0 h' 5 1 a' (n + 1) c' (byteVals (bs ++ [UInt8.ofNat v])) → K a' (n + 1) c' h') :
  xsApp Tryz.prog 5 (upd h b1 (.cells #[.int .u8 (IntKind.u8.wrap (v : Int))] 5 (0, 0))) a n c (some ⟨b1, 0, none⟩) 1 K := by
 refine Own.append (m := 1) (new := [.int .u8 (IntKind.u8.wrap (v : Int))]) (w.keep (Part.upd hb _)) bytes_cells.1 (by omega) rfl rfl (readsAt_new 5 _) bytes_cells.2.1 (by rw [bytes_cells.2.2]; omega) ?_
 intro a' c' h' o
 rw [byteVals_snoc] at o
 exact hk _ _ _ o
theorem K20.L3.c {h0 : Heap} {Q : QT} {t8 : Int} (ht : t8 ≤ 8) : ∀ (j : Nat) (t9 : Int) (n : Nat) (bs : List UInt8) (a : Option Addr) (m c : Nat) (h : Heap),
  0 ≤ t9 → t9 + j = t8 → n < 18446744073709551616 → m ≤ t9 → Own h0 h 5 1 a m c (byteVals bs) → (∀ h', Part h0 h' → Q (.string ⟨(bs ++ putL n j).toArray⟩) h') →
  K20.L3 n a m c t8 t9 h Q := by
 intro j
 induction j with
 | zero =>
  intro t9 n bs a m c h h1 h2 hn hm w hq
  apply K20.L3.ok
  unfold K20.L3.wp
  refine xsIf_f (by simp; omega) ?_
  refine w.str ?_
  have := hq h w.part
  simpa [putL] using this
 | succ j ih =>
  intro t9 n bs a m c h h1 h2 hn hm w hq
  apply K20.L3.ok
  unfold K20.L3.wp
  refine xsIf_t (by simp; omega) ?_
  intro b1 hb1
  refine w.byte (by omega) hb1 ?_
  intro a' c' h' w'
  rw [show (8 : Int) = ((8 : Nat) : Int) from rfl, ishr_u64 (by omega), i64_in _ (by omega)]
  refine ih (t9 + 1) (n / 2 ^ 8) _ a' (m + 1) c' h' (by omega) (by omega) (by omega) (by omega) w' ?_
  intro h'' p
  have := hq h'' p
  simpa [putL] using this
def cnt (size : Int) : Nat := (min (max size 0) 8).toNat
theorem K20.c {n : Nat} {size : Int} {h : Heap} {Q : QT} (hn : n < 18446744073709551616) (hq : Q (.string ⟨(putL n (cnt size)).toArray⟩) h) : CT 20 #[.int .u64 n, .int .i64 size] h Q := by
 apply C.drop
 apply K20.ok
 unfold K20.wp
 rw [imin_eq, imax_eq]
 refine K20.L3.c (h0 := h) (by omega) (cnt size) 0 n [] none 0 0 h (by omega) ?_ hn (by omega) (Own.nil (Part.refl h)) ?_
 ·unfold cnt; omega
 ·intro h' p
  exact ⟨h, p, by simpa using hq⟩
def get8 (s : ByteArray) : Nat := getL (s.data.toList.take 8)
theorem bget_get {s : ByteArray} {i : Nat} (h : i < s.size) : bget s i = some (s.data.toList[i]'(by simpa using h)) := by
 unfold bget
 simp [h]
 rfl
theorem take_succ_get {l : List UInt8} {i : Nat} (h : i < l.length) : l.drop i = l[i] :: l.drop (i + 1) := List.drop_eq_getElem_cons h
theorem K18.L3.c {s : ByteArray} {h : Heap} {Q : QT} (hq : Q (.int .u64 (get8 s)) h) : ∀ (j : Nat) (n : Nat), j ≤ 8 → j ≤ s.size → n = getL ((s.data.toList.take 8).drop j) →
  K18.L3 s n ((j : Int) - 1) h Q := by
 intro j
 induction j with
 | zero =>
  intro n _ _ hn
  apply K18.L3.ok
  refine xsIf_f (by simp) ?_
  rw [hn]; simpa [get8] using hq
 | succ j ih =>
  intro n h8 hs hn
  apply K18.L3.ok
  refine xsIf_t (by simp) ?_
  have hjs : j < s.size := by omega
  have hl : s.data.toList.length = s.size := by simp
  have hj : ((↑(j + 1) : Int) - 1).toNat = j := by omega
  refine ⟨_, by omega, by rw [hj]; exact bget_get hjs, ?_⟩
  have hlt := getL_lt ((s.data.toList.take 8).drop (j + 1))
  rw [← hn] at hlt
  have hlen : ((s.data.toList.take 8).drop (j + 1)).length ≤ 7 - j := by simp; omega
  have hn2 : n < 256 ^ (7 - j) := Nat.lt_of_lt_of_le hlt (Nat.pow_le_pow_right (by omega) hlen)
  have hn3 : n < 72057594037927936 := Nat.lt_of_lt_of_le hn2 (Nat.pow_le_pow_right (by omega) (show 7 - j ≤ 7 by omega))
  generalize hb : s.data.toList[j]'(by omega) = b
  have hbl := b.toNat_lt
  rw [show (8 : Int) = ((8 : Nat) : Int) from rfl, ishl_u64 (by omega), u64_nat' (by omega), Nat.mod_eq_of_lt (by omega), ior_u64 (by omega) (by omega), i64_in _ (by omega)]
  rw [show (↑(j + 1) : Int) - 1 - 1 = (j : Int) - 1 by omega]
  refine ih _ (by omega) (by omega) ?_
  have hdr : (s.data.toList.take 8).drop j = b :: (s.data.toList.take 8).drop (j + 1) := by
   rw [List.drop_eq_getElem_cons (by simp; omega)]
   congr 1
   simp [← hb]
  rw [hdr]
  simp only [getL]
  rw [← hn, Nat.mul_comm n, ← Nat.two_pow_add_eq_or_of_lt (by omega : b.toNat < 2 ^ 8)]
  omega
theorem K18.c {s : ByteArray} {h : Heap} {Q : QT} (hs : s.size ≤ 9223372036854775807) (hq : Q (.int .u64 (get8 s)) h) : CT 18 #[.string s] h Q := by
 apply K18.ok
 unfold K18.wp
 rw [imin_eq, i64_in _ (by omega)]
 have := K18.L3.c hq (min s.size 8) 0 (by omega) (by omega) (by
  rw [List.drop_eq_nil_of_le]; rfl
  simp
  have : s.data.size = s.size := rfl
  omega)
 have e : ((min s.size 8 : Nat) : Int) - 1 = min (s.size : Int) 8 - 1 := by omega
 rw [e] at this
 exact this
end Go.Gb
namespace Go.Gb
open Go.Proofs IntWalk
def maskN (at0 width : Nat) : Nat := (2 ^ width - 1) * 2 ^ at0
def mayP (at0 width : Int) : Prop := 0 ≤ at0 ∧ at0 < 64 ∧ 1 ≤ width ∧ width ≤ 64 - at0
instance (a b : Int) : Decidable (mayP a b) := by unfold mayP; infer_instance
theorem maskN_test (a n i : Nat) : (maskN a n).testBit i = (decide (a ≤ i) && decide (i < a + n)) := by
 unfold maskN
 rw [Nat.testBit_mul_two_pow, Nat.testBit_two_pow_sub_one]
 by_cases h : a ≤ i <;> simp [h]
 omega
theorem maskN_pos {a n : Nat} (h : 1 ≤ n) : maskN a n ≠ 0 := by
 unfold maskN
 have : 2 ^ 1 ≤ 2 ^ n := Nat.pow_le_pow_right (by omega) h
 have h2 : 0 < 2 ^ a := Nat.two_pow_pos a
 exact Nat.mul_ne_zero (by omega) (by omega)
theorem maskN_lt {a n : Nat} (h : a + n ≤ 64) : maskN a n < 18446744073709551616 := by
 unfold maskN
 have h1 : 2 ^ n * 2 ^ a ≤ 2 ^ 64 := by rw [← Nat.pow_add]; exact Nat.pow_le_pow_right (by omega) (by omega)
 have h2 : 0 < 2 ^ a := Nat.two_pow_pos a
 rw [Nat.sub_mul]
 omega
theorem not_may {a n : Int} (h : ¬ (0 ≤ a ∧ a < 64 ∧ 1 ≤ n ∧ n ≤ 64 - a)) : ¬ mayP a n := h
theorem K135.c {at0 width : Int} {h : Heap} {Q : QT} (hq : Q (.int .u64 (if mayP at0 width then (maskN at0.toNat width.toNat : Nat) else 0 : Int)) h) : CT 135 #[.int .i64 at0, .int .i64 width] h Q := by
 apply K135.ok
 unfold K135.wp
 refine xsIf_intro (fun h1 => ?_) (fun h1 => xsIf_intro (fun h2 => ?_) (fun h2 => xsIf_intro (fun h3 => ?_) (fun h3 => ?_)))
 ·simp at h1
  rw [if_neg (not_may (by omega))] at hq; exact hq
 ·simp at h1 h2
  rw [if_neg (not_may (by omega))] at hq; exact hq
 ·simp at h1 h2 h3
  rw [if_neg (not_may (by omega))] at hq; exact hq
 ·simp at h1 h2 h3
  rw [i64_in (64 - at0) (by omega)]
  refine xsIf_intro (fun h4 => ?_) (fun h4 => ?_) <;> simp at h4
  ·rw [if_neg (not_may (by omega))] at hq; exact hq
  ·rw [if_pos (show mayP at0 width from ⟨by omega, by omega, by omega, by omega⟩)] at hq
   rw [i64_in (64 - width) (by omega)]
   refine ⟨by omega, by omega, ?_⟩
   obtain ⟨a, rfl⟩ : ∃ a : Nat, at0 = a := ⟨at0.toNat, by omega⟩
   obtain ⟨n, rfl⟩ : ∃ n : Nat, width = n := ⟨width.toNat, by omega⟩
   rw [show (64 : Int) - (n : Int) = ((64 - n : Nat) : Int) by omega, show (18446744073709551615 : Int) = ((18446744073709551615 : Nat) : Int) from rfl, ishr_u64 (by omega), ishl_u64 (by omega)]
   have e1 : 18446744073709551615 / 2 ^ (64 - n) = 2 ^ n - 1 := by
    have : (18446744073709551615 : Nat) = 2 ^ (64 - n) * 2 ^ n - 1 := by rw [← Nat.pow_add, show 64 - n + n = 64 by omega]
    rw [this]
    have hp : 0 < 2 ^ n := Nat.two_pow_pos n
    have hp2 : 0 < 2 ^ (64 - n) := Nat.two_pow_pos _
    have : 2 ^ (64 - n) * 2 ^ n - 1 = (2 ^ (64 - n) - 1) + 2 ^ (64 - n) * (2 ^ n - 1) := by
     rw [Nat.mul_sub, Nat.mul_one]
     have : 2 ^ (64 - n) ≤ 2 ^ (64 - n) * 2 ^ n := Nat.le_mul_of_pos_right _ hp
     omega
    rw [this, Nat.add_mul_div_left _ _ hp2, Nat.div_eq_of_lt (by omega)]
    omega
   have hml := maskN_lt (a := a) (n := n) (by omega)
   unfold maskN at hml
   rw [e1, Nat.mod_eq_of_lt hml]
   simpa [maskN] using hq
def fieldN (w a n : Nat) : Nat := w / 2 ^ a % 2 ^ n
def withN (w a n v : Nat) : Nat := (w &&& (18446744073709551615 - maskN a n)) ||| ((v * 2 ^ a % 18446744073709551616) &&& maskN a n)
theorem fieldN_test (w a n i : Nat) : (fieldN w a n).testBit i = (decide (i < n) && w.testBit (a + i)) := by
 unfold fieldN
 rw [Nat.testBit_mod_two_pow, Nat.testBit_div_two_pow, Nat.add_comm]
theorem field_and (w a n : Nat) : (w &&& maskN a n) / 2 ^ a = fieldN w a n := by
 apply Nat.eq_of_testBit_eq
 intro i
 rw [Nat.testBit_div_two_pow, Nat.testBit_and, maskN_test, fieldN_test, Nat.add_comm i a]
 simp
 by_cases h : i < n <;> simp [h]
theorem withN_test {w a n v i : Nat} (h : a + n ≤ 64) (hw : w < 18446744073709551616) :
  (withN w a n v).testBit i = if a ≤ i ∧ i < a + n then v.testBit (i - a) else w.testBit i := by
 unfold withN
 have hm := maskN_lt h
 have e : 18446744073709551615 - maskN a n = 2 ^ 64 - (maskN a n + 1) := by omega
 rw [Nat.testBit_or, Nat.testBit_and, Nat.testBit_and, e, Nat.testBit_two_pow_sub_succ hm, maskN_test]
 rw [show (18446744073709551616 : Nat) = 2 ^ 64 from rfl, Nat.testBit_mod_two_pow, Nat.testBit_mul_two_pow]
 by_cases h1 : a ≤ i ∧ i < a + n
 ·rw [if_pos h1]
  have : i < 64 := by omega
  simp [h1.1, h1.2, this]
 ·rw [if_neg h1]
  have : (decide (a ≤ i) && decide (i < a + n)) = false := by simp; omega
  rw [this]
  by_cases h64 : i < 64
  ·simp [h64]
  ·have : w.testBit i = false := Nat.testBit_lt_two_pow (Nat.lt_of_lt_of_le hw (Nat.pow_le_pow_right (n := 2) (by omega) (by omega : 64 ≤ i)))
   simp [this]
def fieldV (w : Nat) (at0 width : Int) : Nat := if mayP at0 width then fieldN w at0.toNat width.toNat else 0
def withV (w : Nat) (at0 width : Int) (v : Nat) : Nat := if mayP at0 width then withN w at0.toNat width.toNat v else w
theorem K131.c {w : Nat} {at0 width : Int} {h : Heap} {Q : QT} (hw : w < 18446744073709551616) (hq : Q (.int .u64 (fieldV w at0 width)) h) : CT 131 #[.int .u64 w, .int .i64 at0, .int .i64 width] h Q := by
 apply K131.ok
 unfold K131.wp
 refine K135.c ⟨_, rfl, ?_⟩
 unfold fieldV at hq
 split
 ·rename_i hm
  rw [if_pos hm] at hq
  have hm' := hm
  unfold mayP at hm'
  have h1 : maskN at0.toNat width.toNat ≠ 0 := maskN_pos (by omega)
  refine xsIf_f (by simp; exact h1) ⟨hm.1, ?_⟩
  obtain ⟨a, rfl⟩ : ∃ a : Nat, at0 = a := ⟨at0.toNat, by omega⟩
  rw [iand_u64 hw (maskN_lt (by omega)), ishr_u64 (by omega)]
  simp only [Int.toNat_natCast] at hq ⊢
  rw [field_and]
  exact hq
 ·rename_i hm
  rw [if_neg hm] at hq
  exact xsIf_t (by simp) hq
theorem K94.c {w v : Nat} {at0 width : Int} {h : Heap} {Q : QT} (hw : w < 18446744073709551616) (hv : v < 18446744073709551616) (hq : Q (.int .u64 (withV w at0 width v)) h) :
  CT 94 #[.int .u64 w, .int .i64 at0, .int .i64 width, .int .u64 v] h Q := by
 apply K94.ok
 unfold K94.wp
 refine K135.c ⟨_, rfl, ?_⟩
 unfold withV at hq
 split
 ·rename_i hm
  rw [if_pos hm] at hq
  have hm' := hm
  unfold mayP at hm'
  have h1 : maskN at0.toNat width.toNat ≠ 0 := maskN_pos (by omega)
  refine xsIf_f (by simp; exact h1) ⟨hm.1, ?_⟩
  obtain ⟨a, rfl⟩ : ∃ a : Nat, at0 = a := ⟨at0.toNat, by omega⟩
  have hml := maskN_lt (a := (a : Int).toNat) (n := width.toNat) (by omega)
  rw [iandNot_u64 hw hml, ishl_u64 (by omega), iand_u64 (Nat.mod_lt _ (by omega)) hml, ior_u64 (Nat.lt_of_le_of_lt Nat.and_le_left hw) (Nat.lt_of_le_of_lt Nat.and_le_right hml)]
  exact hq
 ·rename_i hm
  rw [if_neg hm] at hq
  exact xsIf_t (by simp) hq
end Go.Gb
namespace Go.Gb
open Go.Proofs IntWalk
end Go.Gb
namespace Go.Gb
open Go.Proofs IntWalk
def chunk (l : List UInt8) (i : Nat) : List UInt8 := (l.drop (8 * i)).take 8
def wordAt (s : ByteArray) (i : Nat) : Nat := getL (chunk s.data.toList i)
def textL (n0 n1 n2 n3 n4 n5 n6 n7 : Nat) : List UInt8 := putL n0 8 ++ putL n1 8 ++ putL n2 8 ++ putL n3 8 ++ putL n4 8 ++ putL n5 8 ++ putL n6 8 ++ putL n7 8
theorem get8_sext {s : ByteArray} {i : Nat} (hs : s.size = 64) : get8 (sext s ((8 * i : Nat) : Int) (s.size : Int)) = wordAt s i := by
 unfold get8 wordAt chunk sext
 congr 1
 rw [Int.toNat_natCast, Int.toNat_natCast]
 rw [ByteArray.data_extract]
 have e : (s.data.extract (8 * i) s.size).toList = s.data.toList.drop (8 * i) := by
  rw [Array.toList_extract]
  have : s.size = s.data.toList.length := by simp
  rw [this, List.extract_eq_take_drop, ← List.drop_take, List.take_length]
 rw [e]
theorem sext_size {s : ByteArray} {l : Int} : (sext s l (s.size : Int)).size ≤ s.size := by
 unfold sext
 rw [ByteArray.size_extract]
 omega
theorem wordAt_lt (s : ByteArray) (i : Nat) : wordAt s i < 18446744073709551616 := by
 unfold wordAt
 have h1 := getL_lt (chunk s.data.toList i)
 have h2 : (chunk s.data.toList i).length ≤ 8 := by unfold chunk; simp; omega
 exact Nat.lt_of_lt_of_le h1 (Nat.pow_le_pow_right (n := 256) (by omega) h2)
theorem words_step {s : ByteArray} {h : Heap} {Q : QT} {k : Nat} {w : List Value} {t0 t1 t2 t3 t4 t5 t6 t7 : Int} (hk : k < 8) (hs : s.size = 64) (hw : w.length = 8)
  (hq : K113.L5 s ((k + 1 : Nat) : Int) t0 t1 t2 t3 t4 t5 t6 t7 (lput w k [.int .u64 (wordAt s k)]) h Q) : K113.L5 s (k : Int) t0 t1 t2 t3 t4 t5 t6 t7 w h Q := by
 apply K113.L5.ok
 unfold K113.L5.wp
 refine xsIf_t (by simp; omega) ?_
 rw [show (8 : Int) * (k : Int) = ((8 * k : Nat) : Int) by omega, i64_in ((8 * k : Nat) : Int) (by omega)]
 refine ⟨by omega, ?_⟩
 refine K18.c (Nat.le_trans sext_size (by omega)) ⟨_, rfl, by omega, by omega, ?_⟩
 rw [get8_sext hs, i64_in _ (by omega), Int.toNat_natCast, Nat.zero_add, Nat.mul_one]
 exact hq
theorem K113.c {s : ByteArray} {h : Heap} {Q : QT}
  (hq : s.size = 64 → Q (.tuple #[.agg #[.int .u64 (wordAt s 0), .int .u64 (wordAt s 1), .int .u64 (wordAt s 2), .int .u64 (wordAt s 3), .int .u64 (wordAt s 4), .int .u64 (wordAt s 5), .int .u64 (wordAt s 6), .int .u64 (wordAt s 7)], .int .i64 0]) h)
  (hn : s.size ≠ 64 → Q (.tuple #[.agg #[.int .u64 0, .int .u64 0, .int .u64 0, .int .u64 0, .int .u64 0, .int .u64 0, .int .u64 0, .int .u64 0], .int .i64 2]) h) : CT 113 #[.string s] h Q := by
 apply K113.ok
 unfold K113.wp
 refine xsIf_intro (fun h1 => ?_) (fun h1 => ?_)
 ·have h1' : s.size ≠ 64 := by simp at h1; omega
  exact ⟨by decide, _, rfl, _, rfl, _, rfl, _, rfl, _, rfl, _, rfl, _, rfl, _, rfl, hn h1'⟩
 ·have hs : s.size = 64 := by simp at h1; omega
  refine words_step (k := 0) (by omega) hs rfl ?_
  refine words_step (k := 1) (by omega) hs rfl ?_
  refine words_step (k := 2) (by omega) hs rfl ?_
  refine words_step (k := 3) (by omega) hs rfl ?_
  refine words_step (k := 4) (by omega) hs rfl ?_
  refine words_step (k := 5) (by omega) hs rfl ?_
  refine words_step (k := 6) (by omega) hs rfl ?_
  refine words_step (k := 7) (by omega) hs rfl ?_
  apply K113.L5.ok
  refine xsIf_f (by decide) ⟨Nat.le_refl 8, _, rfl, _, rfl, _, rfl, _, rfl, _, rfl, _, rfl, _, rfl, _, rfl, hq hs⟩
theorem bytes_append (a b : List UInt8) : (⟨a.toArray⟩ : ByteArray) ++ ⟨b.toArray⟩ = ⟨(a ++ b).toArray⟩ := by
 apply ByteArray.ext
 simp
theorem bytes_size (a : List UInt8) : (⟨a.toArray⟩ : ByteArray).size = a.length := by
 show a.toArray.size = _
 simp
theorem text_step {h : Heap} {Q : QT} {k n : Nat} {acc : List UInt8} {t0 t1 t2 t3 t4 t5 t6 t7 : Int} (hk : k < 8) (hl : acc.length = 8 * k) (hn : n < 18446744073709551616)
  (hg : lget [.int .u64 t0, .int .u64 t1, .int .u64 t2, .int .u64 t3, .int .u64 t4, .int .u64 t5, .int .u64 t6, .int .u64 t7] k = some (.int .u64 n))
  (hq : K127.L3 ⟨(acc ++ putL n 8).toArray⟩ t0 t1 t2 t3 t4 t5 t6 t7 ((k + 1 : Nat) : Int) h Q) : K127.L3 ⟨acc.toArray⟩ t0 t1 t2 t3 t4 t5 t6 t7 (k : Int) h Q := by
 apply K127.L3.ok
 unfold K127.L3.wp
 refine xsIf_t (by simp; omega) ⟨by omega, n, ?_, ?_⟩
 ·rw [Int.toNat_natCast, Nat.mul_one]; exact hg
 refine K20.c hn ⟨_, rfl, ?_, ?_⟩
 ·rw [bytes_size, bytes_size, putL_length, show cnt 8 = 8 by decide]; omega
 ·rw [bytes_append, show cnt 8 = 8 by decide, i64_in _ (by omega)]
  exact hq
theorem K127.c {n0 n1 n2 n3 n4 n5 n6 n7 : Nat} {h : Heap} {Q : QT} (h0 : n0 < 18446744073709551616) (h1 : n1 < 18446744073709551616) (h2 : n2 < 18446744073709551616) (h3 : n3 < 18446744073709551616)
  (h4 : n4 < 18446744073709551616) (h5 : n5 < 18446744073709551616) (h6 : n6 < 18446744073709551616) (h7 : n7 < 18446744073709551616)
  (hq : Q (.string ⟨(textL n0 n1 n2 n3 n4 n5 n6 n7).toArray⟩) h) :
  CT 127 #[.agg #[.int .u64 n0, .int .u64 n1, .int .u64 n2, .int .u64 n3, .int .u64 n4, .int .u64 n5, .int .u64 n6, .int .u64 n7]] h Q := by
 apply K127.ok
 unfold K127.wp
 refine text_step (acc := []) (k := 0) (by omega) rfl h0 rfl ?_
 refine text_step (k := 1) (by omega) (by simp [putL_length]) h1 rfl ?_
 refine text_step (k := 2) (by omega) (by simp [putL_length]) h2 rfl ?_
 refine text_step (k := 3) (by omega) (by simp [putL_length]) h3 rfl ?_
 refine text_step (k := 4) (by omega) (by simp [putL_length]) h4 rfl ?_
 refine text_step (k := 5) (by omega) (by simp [putL_length]) h5 rfl ?_
 refine text_step (k := 6) (by omega) (by simp [putL_length]) h6 rfl ?_
 refine text_step (k := 7) (by omega) (by simp [putL_length]) h7 rfl ?_
 apply K127.L3.ok
 refine xsIf_f (by decide) ?_
 exact hq
theorem chunks (l : List UInt8) (h : l.length = 64) : l = chunk l 0 ++ chunk l 1 ++ chunk l 2 ++ chunk l 3 ++ chunk l 4 ++ chunk l 5 ++ chunk l 6 ++ chunk l 7 := by
 unfold chunk
 apply List.ext_getElem?
 intro i
 simp only [List.getElem?_append, List.getElem?_take, List.getElem?_drop, List.length_append, List.length_take, List.length_drop, h]
 simp
 (repeat' split) <;> first | rfl | (congr 1; omega) | (rw [List.getElem?_eq_none]; omega) | omega
theorem put_word (s : ByteArray) (hs : s.size = 64) (i : Nat) (hi : i < 8) : putL (wordAt s i) 8 = chunk s.data.toList i := by
 unfold wordAt
 have hl : (chunk s.data.toList i).length = 8 := by
  unfold chunk
  have : s.data.toList.length = s.size := by simp
  simp; omega
 have := putL_get (chunk s.data.toList i)
 rw [hl] at this
 exact this
theorem text_words (s : ByteArray) (hs : s.size = 64) : (⟨(textL (wordAt s 0) (wordAt s 1) (wordAt s 2) (wordAt s 3) (wordAt s 4) (wordAt s 5) (wordAt s 6) (wordAt s 7)).toArray⟩ : ByteArray) = s := by
  unfold textL
  rw [put_word s hs 0 (by omega), put_word s hs 1 (by omega), put_word s hs 2 (by omega), put_word s hs 3 (by omega), put_word s hs 4 (by omega), put_word s hs 5 (by omega), put_word s hs 6 (by omega), put_word s hs 7 (by omega)]
  rw [← chunks s.data.toList (by have : s.data.toList.length = s.size := by simp
                                 omega)]
end Go.Gb
namespace Go.Gb
open Go.Proofs IntWalk
theorem and_bit (r k : Nat) : (r &&& 2 ^ k ≠ 0) ↔ r.testBit k = true := by
 constructor
 ·intro h
  cases hb : r.testBit k with
  | true => rfl
  | false =>
   refine absurd ?_ h
   apply Nat.eq_of_testBit_eq
   intro i
   rw [Nat.testBit_and, Nat.testBit_two_pow, Nat.zero_testBit]
   by_cases e : k = i
   ·subst e; rw [hb]; rfl
   ·simp [e]
 ·intro h e
  have : (r &&& 2 ^ k).testBit k = true := by rw [Nat.testBit_and, Nat.testBit_two_pow, h]; simp
  rw [e, Nat.zero_testBit] at this
  cases this
theorem K162.L7.c {s : ByteArray} {t7 t8 : Int} {h : Heap} {Q : QT} : ∀ (j k r : Nat), k + j = 8 → r < 65536 → K162.L3 s (iter c16 j r : Nat) t7 (IntKind.i64.wrap (t8 + 1)) h Q → K162.L7 s r t7 t8 k h Q := by
 intro j
 induction j with
 | zero =>
  intro k r hk hr hq
  apply K162.L7.ok
  exact xsIf_f (by simp; omega) hq
 | succ j ih =>
  intro k r hk hr hq
  have hn := ih (k + 1) (c16 r) (by omega) (c16_lin.lt r hr) hq
  apply K162.L7.ok
  unfold K162.L7.wp
  rw [show (32768 : Int) = ((32768 : Nat) : Int) from rfl, iandU rfl (show r < 2 ^ IntKind.u16.bits from hr) (show 32768 < 2 ^ 16 by omega), show (1 : Int) = ((1 : Nat) : Int) from rfl, ishlU rfl (show 1 ≤ IntKind.u16.bits by decide),
   show (4129 : Int) = ((4129 : Nat) : Int) from rfl, ixorU rfl (Nat.mod_lt _ (Nat.two_pow_pos _)) (show 4129 < 2 ^ 16 by omega), show ((k : Int) + ((1 : Nat) : Int)) = ((k + 1 : Nat) : Int) by omega, i64_in _ (by omega)]
  have hb := and_bit r 15
  have e2 : r * 2 ^ 1 % 2 ^ IntKind.u16.bits = 2 * r % 65536 := by rw [show IntKind.u16.bits = 16 from rfl]; omega
  rw [e2]
  unfold c16 at hn
  refine xsIf_t (by simp; omega) (xsIf_intro (fun h1 => ?_) (fun h1 => ?_))
  ·have h1 : r.testBit 15 = true := hb.1 (by simpa using h1)
   rw [h1] at hn; exact hn
  ·have h1 : r.testBit 15 = false := by
    cases hx : r.testBit 15 with
    | false => rfl
    | true => have h3 := hb.2 hx; simp at h1; exact absurd (by exact_mod_cast h1) h3
   rw [h1] at hn
   simpa using hn
theorem K162.L3.c {s : ByteArray} {h : Heap} {Q : QT} (hs : s.size ≤ 9223372036854775807) : ∀ (j i r : Nat), i + j = s.size → r < 65536 → Q (.int .u16 (chk (iter c16 8) (fun b => b * 256) r (s.data.toList.drop i) : Nat)) h → K162.L3 s r s.size i h Q := by
 intro j
 induction j with
 | zero =>
  intro i r hi hr hq
  apply K162.L3.ok
  refine xsIf_f (by simp; omega) ?_
  rw [List.drop_eq_nil_of_le (by simp; omega)] at hq
  exact hq
 | succ j ih =>
  intro i r hi hr hq
  apply K162.L3.ok
  have hlt : i < s.data.toList.length := by simp; omega
  refine xsIf_t (by simp; omega) ⟨_, by omega, by rw [Int.toNat_natCast]; exact bget_get (by omega), ?_⟩
  have hb := byte_lt s.data.toList[i]
  rw [take_succ_get hlt, chk_cons] at hq
  rw [u16_nat' (by omega), show (8 : Int) = ((8 : Nat) : Int) from rfl, ishlU rfl (show 8 ≤ IntKind.u16.bits by decide), ixorU rfl (show r < 2 ^ IntKind.u16.bits from hr) (Nat.mod_lt _ (Nat.two_pow_pos _))]
  have e2 : s.data.toList[i].toNat * 2 ^ 8 % 2 ^ IntKind.u16.bits = s.data.toList[i].toNat * 256 := by rw [show IntKind.u16.bits = 16 from rfl]; omega
  rw [e2]
  have hx : r ^^^ s.data.toList[i].toNat * 256 < 65536 := xor_lt (w := 16) hr (by omega)
  refine K162.L7.c 8 0 _ (by omega) hx ?_
  rw [show ((i : Int) + 1) = ((i + 1 : Nat) : Int) by omega, i64_in _ (by omega)]
  exact ih (i + 1) _ (by omega) ((c16_lin.iter 8).lt _ hx) hq
theorem K162.c {s : ByteArray} {h : Heap} {Q : QT} (hs : s.size ≤ 9223372036854775807) (hq : Q (.int .u16 (sum16 s.data.toList)) h) : CT 162 #[.string s] h Q := by
 apply K162.ok
 exact K162.L3.c hs s.size 0 65535 (by omega) (by omega) hq
theorem K124.L7.c {s : ByteArray} {t7 t8 : Int} {h : Heap} {Q : QT} : ∀ (j k r : Nat), k + j = 8 → r < 4294967296 → K124.L3 s (iter c32 j r : Nat) t7 (IntKind.i64.wrap (t8 + 1)) h Q → K124.L7 s r t7 t8 k h Q := by
 intro j
 induction j with
 | zero =>
  intro k r hk hr hq
  apply K124.L7.ok
  exact xsIf_f (by simp; omega) hq
 | succ j ih =>
  intro k r hk hr hq
  have hn := ih (k + 1) (c32 r) (by omega) (c32_lin.lt r hr) hq
  apply K124.L7.ok
  unfold K124.L7.wp
  have hd : r / 2 < 2 ^ 32 := by omega
  rw [show (1 : Int) = ((1 : Nat) : Int) from rfl, iandU rfl (show r < 2 ^ IntKind.u32.bits from hr) (show 1 < 2 ^ 32 by omega), ishrU (show 1 ≤ IntKind.u32.bits by decide), show r / 2 ^ 1 = r / 2 from rfl,
   show (2197175160 : Int) = ((2197175160 : Nat) : Int) from rfl, ixorU rfl hd (show 2197175160 < 2 ^ 32 by omega), show ((k : Int) + ((1 : Nat) : Int)) = ((k + 1 : Nat) : Int) by omega, i64_in _ (by omega)]
  have hb := and_bit r 0
  unfold c32 at hn
  refine xsIf_t (by simp; omega) (xsIf_intro (fun h1 => ?_) (fun h1 => ?_))
  ·have h1 : r.testBit 0 = true := hb.1 (by intro e; rw [show (1 : Nat) = 2 ^ 0 from rfl, e] at h1; simp at h1)
   rw [h1] at hn; exact hn
  ·have h1 : r.testBit 0 = false := by
    cases hx : r.testBit 0 with
    | false => rfl
    | true => have h3 := hb.2 hx; simp at h1; simp at h3; omega
   rw [h1] at hn
   simpa using hn
theorem K124.L3.c {s : ByteArray} {h : Heap} {Q : QT} (hs : s.size ≤ 9223372036854775807) : ∀ (j i r : Nat), i + j = s.size → r < 4294967296 → Q (.int .u32 (chk (iter c32 8) (fun b => b) r (s.data.toList.drop i) ^^^ 4294967295 : Nat)) h → K124.L3 s r s.size i h Q := by
 intro j
 induction j with
 | zero =>
  intro i r hi hr hq
  apply K124.L3.ok
  refine xsIf_f (by simp; omega) ?_
  rw [List.drop_eq_nil_of_le (by simp; omega)] at hq
  rw [inotU (k := .u32) (m := 4294967295) rfl rfl (show 4294967295 < 2 ^ 32 by omega) (show r < 2 ^ IntKind.u32.bits from hr)]
  exact hq
 | succ j ih =>
  intro i r hi hr hq
  apply K124.L3.ok
  have hlt : i < s.data.toList.length := by simp; omega
  refine xsIf_t (by simp; omega) ⟨_, by omega, by rw [Int.toNat_natCast]; exact bget_get (by omega), ?_⟩
  have hb := byte_lt s.data.toList[i]
  rw [take_succ_get hlt, chk_cons] at hq
  rw [u32_nat' (by omega), ixorU rfl (show r < 2 ^ IntKind.u32.bits from hr) (show s.data.toList[i].toNat < 2 ^ 32 by omega)]
  have hx : r ^^^ s.data.toList[i].toNat < 4294967296 := xor_lt (w := 32) hr (by omega)
  refine K124.L7.c 8 0 _ (by omega) hx ?_
  rw [show ((i : Int) + 1) = ((i + 1 : Nat) : Int) by omega, i64_in _ (by omega)]
  exact ih (i + 1) _ (by omega) ((c32_lin.iter 8).lt _ hx) hq
theorem K124.c {s : ByteArray} {h : Heap} {Q : QT} (hs : s.size ≤ 9223372036854775807) (hq : Q (.int .u32 (sum32 s.data.toList)) h) : CT 124 #[.string s] h Q := by
 apply K124.ok
 exact K124.L3.c hs s.size 0 4294967295 (by omega) (by omega) hq
def checkN (n : Nat) : Nat := 65535 - sum16 (putL n 6)
def guardN (n : Nat) : Nat := checkN (n % 281474976710656) * 281474976710656 + n % 281474976710656
theorem checkN_lt (n : Nat) : checkN n < 65536 := by unfold checkN; omega
theorem guardN_lt (n : Nat) : guardN n < 18446744073709551616 := by have := checkN_lt (n % 281474976710656); unfold guardN; omega
theorem guardN_mod (n : Nat) : guardN n % 281474976710656 = n % 281474976710656 := by unfold guardN; omega
theorem guardN_low (n : Nat) : guardN (n % 281474976710656) = guardN n := by unfold guardN; rw [Nat.mod_mod]
theorem xor_ones {a : Nat} (h : a < 65536) : a ^^^ 65535 = 65535 - a := by
 apply Nat.eq_of_testBit_eq
 intro i
 rw [Nat.testBit_xor, show 65535 - a = 2 ^ 16 - (a + 1) by omega, Nat.testBit_two_pow_sub_succ (by omega), show (65535 : Nat) = 2 ^ 16 - 1 by omega, Nat.testBit_two_pow_sub_one]
 by_cases hi : i < 16
 ·simp [hi]
 ·have : a.testBit i = false := Nat.testBit_lt_two_pow (Nat.lt_of_lt_of_le h (Nat.pow_le_pow_right (n := 2) (by omega) (by omega : 16 ≤ i)))
  simp [hi, this]
theorem put_size (n k : Nat) : (⟨(putL n k).toArray⟩ : ByteArray).size = k := by
 show (putL n k).toArray.size = k
 simp [putL_length]
theorem K134.c {n : Nat} {h : Heap} {Q : QT} (hn : n < 18446744073709551616) (hq : Q (.int .u64 (checkN n)) h) : CT 134 #[.int .u64 n] h Q := by
 apply K134.ok
 unfold K134.wp
 refine K20.c hn ⟨_, rfl, K162.c ?_ ⟨_, rfl, ?_⟩⟩
 ·rw [put_size]; decide
 ·have hl := sum16_lt (putL n (cnt 6))
  rw [inotU (k := .u16) (m := 65535) rfl rfl (show 65535 < 2 ^ 16 by omega) (show sum16 (putL n (cnt 6)) < 2 ^ 16 from hl), xor_ones hl, u64_nat' (by omega)]
  exact hq
theorem field48 (n : Nat) : fieldV n 0 48 = n % 281474976710656 := by
 unfold fieldV
 rw [if_pos (by unfold mayP; omega)]
 unfold fieldN
 simp
theorem K93.c {n : Nat} {h : Heap} {Q : QT} (hn : n < 18446744073709551616) (hq : Q (.int .u64 (guardN n)) h) : CT 93 #[.int .u64 n] h Q := by
 apply K93.ok
 unfold K93.wp
 refine K131.c hn ⟨_, rfl, ?_⟩
 rw [field48]
 refine K134.c (by omega) ⟨_, rfl, ?_⟩
 have hc := checkN_lt (n % 281474976710656)
 rw [show (48 : Int) = ((48 : Nat) : Int) from rfl, ishl_u64 (by omega), ior_u64 (by omega) (by omega)]
 have e : checkN (n % 281474976710656) * 2 ^ 48 % 18446744073709551616 ||| n % 281474976710656 = guardN n := by
  rw [Nat.mod_eq_of_lt (by omega), Nat.mul_comm, ← Nat.two_pow_add_eq_or_of_lt (by omega)]
  unfold guardN; rw [Nat.mul_comm]
 rw [e]; exact hq
theorem K146.c {w : Nat} {h : Heap} {Q : QT} (hw : w < 18446744073709551616) (hq : Q (.tuple #[.int .u64 (if guardN w = w then w % 281474976710656 else 0 : Nat), .bool (decide (guardN w = w))]) h) : CT 146 #[.int .u64 w] h Q := by
 apply K146.ok
 unfold K146.wp
 refine K131.c hw ⟨_, rfl, ?_⟩
 rw [field48]
 refine K93.c (by omega) ⟨_, rfl, ?_⟩
 rw [guardN_low]
 by_cases e : guardN w = w
 ·rw [if_pos e, decide_eq_true e] at hq
  exact xsIf_f (by simp [e]) hq
 ·rw [if_neg e, decide_eq_false e] at hq
  exact xsIf_t (by simp; omega) hq
end Go.Gb
namespace Go.Gb
open Go.Proofs IntWalk
end Go.Gb
namespace Go.Gb
open Go.Proofs IntWalk
def reg16 (R j : Nat) : Int := ((R.testBit (15 - j)).toNat : Int)
def t16 : Nat → Int := reg16 4129
def reg32 (R j : Nat) : Int := ((R.testBit j).toNat : Int)
def t32 : Nat → Int := reg32 2197175160
end Go.Gb
namespace Go.Gb
open Go.Proofs IntWalk
def rightP (s0 s1 n : Int) : Prop := 1 ≤ n ∧ n ≤ 1024 ∧ 0 ≤ s0 ∧ s0 < n ∧ 0 ≤ s1 ∧ s1 ≤ n
instance (a b c : Int) : Decidable (rightP a b c) := by unfold rightP; infer_instance
theorem K158.c {n : Int} {h : Heap} {Q : QT} (hq : Q (.bool (decide (1 ≤ n ∧ n ≤ 1024))) h) : CT 158 #[.int .i64 n] h Q := by
 apply K158.ok
 unfold K158.wp
 refine xsIf_intro (fun hc => ?_) (fun hc => ?_) <;> simp at hc
 ·rw [show decide (n ≤ 1024) = decide (1 ≤ n ∧ n ≤ 1024) by simp [hc]]; exact hq
 ·rw [show false = decide (1 ≤ n ∧ n ≤ 1024) by simp; omega]; exact hq
theorem K130.c {s0 s1 s2 n : Int} {h : Heap} {Q : QT} (hq : Q (.bool (decide (rightP s0 s1 n))) h) :
  CT 130 #[.agg #[.int .i64 s0, .int .i64 s1, .int .u32 s2], .int .i64 n] h Q := by
 have hq' : ∀ b, (b = true ↔ rightP s0 s1 n) → Q (.bool b) h := fun b hb => by
  rw [show b = decide (rightP s0 s1 n) by rw [Bool.eq_iff_iff]; simpa using hb]; exact hq
 apply K130.ok
 unfold K130.wp
 refine K158.c ⟨_, rfl, ?_⟩
 repeat' refine xsIf_intro (fun hc => ?_) (fun hc => ?_)
 all_goals
  apply hq'
  unfold rightP
  simp at *
  omega
def nextS (s0 s1 s2 n : Int) : Int × Int × Int × Int × Int :=
 if rightP s0 s1 n then
  if 0 < s1 then (s0, s1 - 1, IntKind.u32.wrap (s2 + 1), s1 - 1, s1)
  else ((s0 + 1) % n, n, IntKind.u32.wrap (s2 + 1), n, 0)
 else (0, 0, 0, 0, 0)
theorem K186.c {s0 s1 s2 n a b c d e : Int} {h : Heap} {Q : QT} (hr : nextS s0 s1 s2 n = (a, b, c, d, e))
  (hq : Q (.tuple #[.agg #[.int .i64 a, .int .i64 b, .int .u32 c], .int .i64 d, .int .i64 e]) h) :
  CT 186 #[.agg #[.int .i64 s0, .int .i64 s1, .int .u32 s2], .int .i64 n] h Q := by
 apply K186.ok
 unfold K186.wp
 refine K130.c ⟨_, rfl, ?_⟩
 unfold nextS at hr
 refine xsIf_intro (fun hc => ?_) (fun hc => ?_)
 ·simp at hc
  rw [if_neg hc] at hr
  cases hr
  exact hq
 ·simp at hc
  rw [if_pos hc] at hr
  unfold rightP at hc
  refine xsIf_intro (fun h1 => ?_) (fun h1 => ?_)
  ·simp at h1
   rw [if_pos h1] at hr
   cases hr
   rw [i64_in _ (by omega)]
   exact hq
  ·simp at h1
   rw [if_neg (by omega)] at hr
   cases hr
   refine ⟨by omega, ?_⟩
   unfold irem
   rw [i64_in _ (by omega), rem_in _ _ (by omega)]
   exact hq
theorem K121.c {n : Int} {h : Heap} {Q : QT} (hq : Q (.agg #[.int .i64 0, .int .i64 (if 1 ≤ n ∧ n ≤ 1024 then n else 0), .int .u32 0]) h) : CT 121 #[.int .i64 n] h Q := by
 apply K121.ok
 unfold K121.wp
 refine K158.c ⟨_, rfl, ?_⟩
 refine xsIf_intro (fun hc => ?_) (fun hc => ?_) <;> simp at hc
 ·rw [if_neg (by omega)] at hq; exact hq
 ·rw [if_pos hc] at hq; exact hq
def slotS (s0 s1 n i : Int) : Int := if rightP s0 s1 n ∧ 0 ≤ i ∧ i < n then (if s1 ≤ (i + s0) % n then (i + s0) % n + 1 else (i + s0) % n) else -1
theorem K109.c {s0 s1 s2 n i r : Int} {h : Heap} {Q : QT} (hr : slotS s0 s1 n i = r) (hq : Q (.int .i64 r) h) :
  CT 109 #[.agg #[.int .i64 s0, .int .i64 s1, .int .u32 s2], .int .i64 n, .int .i64 i] h Q := by
 apply K109.ok
 unfold K109.wp
 refine K130.c ⟨_, rfl, ?_⟩
 subst hr
 unfold slotS at hq
 refine xsIf_intro (fun hc => ?_) (fun hc => ?_)
 ·simp at hc
  rw [if_neg (fun h => hc h.1)] at hq
  exact hq
 ·simp at hc
  have hc' := hc
  unfold rightP at hc'
  refine xsIf_intro (fun h1 => ?_) (fun h1 => xsIf_intro (fun h2 => ?_) (fun h2 => ?_))
  ·simp at h1; rw [if_neg (by omega)] at hq; exact hq
  ·simp at h2; rw [if_neg (by omega)] at hq; exact hq
  ·simp at h1 h2
   rw [if_pos ⟨hc, by omega, by omega⟩] at hq
   apply K109.J3.ok
   unfold K109.J3.wp irem
   rw [i64_in _ (by omega), rem_in _ _ (by omega)]
   have hm := Int.emod_lt_of_pos (i + s0) (show 0 < n by omega)
   have hm0 := Int.emod_nonneg (i + s0) (show n ≠ 0 by omega)
   rw [i64_in ((i + s0) % n + 1) (by omega)]
   refine ⟨by omega, xsIf_intro (fun h3 => ?_) (fun h3 => ?_)⟩ <;> simp at h3
   ·rw [if_pos h3] at hq; exact hq
   ·rw [if_neg (by omega)] at hq; exact hq
end Go.Gb
namespace Go.Gb
open Go.Proofs IntWalk
theorem emod_two {x n : Int} (h0 : 0 ≤ x) (h1 : x < 2 * n) (hn : 0 < n) : x % n = if x < n then x else x - n := by
 split
 ·exact Int.emod_eq_of_lt h0 (by omega)
 ·rw [← Int.sub_emod_right, Int.emod_eq_of_lt (by omega) (by omega)]
def lineE (s0 s1 n p : Int) : Int := if p = s1 then -1 else if s0 ≤ (if s1 < p then p - 1 else p) then (if s1 < p then p - 1 else p) - s0 else (if s1 < p then p - 1 else p) - s0 + n
def slotE (s0 s1 n i : Int) : Int := if s1 ≤ (if i + s0 < n then i + s0 else i + s0 - n) then (if i + s0 < n then i + s0 else i + s0 - n) + 1 else (if i + s0 < n then i + s0 else i + s0 - n)
theorem slotS_eq {s0 s1 n i : Int} (hp : rightP s0 s1 n) (h0 : 0 ≤ i) (h1 : i < n) : slotS s0 s1 n i = slotE s0 s1 n i := by
 have hp' := hp
 unfold rightP at hp'
 unfold slotS slotE
 rw [if_pos ⟨hp, h0, h1⟩, emod_two (by omega) (by omega) (by omega)]
theorem lineE_slotE {s0 s1 n i : Int} (hp : rightP s0 s1 n) (h0 : 0 ≤ i) (h1 : i < n) : lineE s0 s1 n (slotE s0 s1 n i) = i ∧ 0 ≤ slotE s0 s1 n i ∧ slotE s0 s1 n i ≤ n ∧ slotE s0 s1 n i ≠ s1 := by
 unfold rightP at hp
 unfold lineE slotE
 (repeat' split) <;> omega
theorem slotE_lineE {s0 s1 n p : Int} (hp : rightP s0 s1 n) (h0 : 0 ≤ p) (h1 : p ≤ n) (h2 : p ≠ s1) : slotE s0 s1 n (lineE s0 s1 n p) = p ∧ 0 ≤ lineE s0 s1 n p ∧ lineE s0 s1 n p < n := by
 unfold rightP at hp
 unfold lineE slotE
 (repeat' split) <;> omega
end Go.Gb
namespace Go.Gb
open Go.Proofs IntWalk
theorem nextS_move {s0 s1 s2 : Int} {N : Nat} (hp : rightP s0 s1 N) : ∃ t0 t1, nextS s0 s1 s2 N = (t0, t1, IntKind.u32.wrap (s2 + 1), t1, s1) ∧ rightP t0 t1 N ∧ t1 ≠ s1 ∧
  (∀ p : Int, 0 ≤ p → p ≤ N → lineE t0 t1 N p = if p = t1 then -1 else if p = s1 then lineE s0 s1 N t1 else lineE s0 s1 N p) ∧
  (0 < s1 → t1 = s1 - 1 ∧ t0 = s0) ∧ (s1 = 0 → t1 = N ∧ t0 = (s0 + 1) % N) := by
 have hp' := hp
 unfold rightP at hp'
 unfold nextS
 rw [if_pos hp]
 by_cases h : 0 < s1
 ·rw [if_pos h]
  refine ⟨s0, s1 - 1, rfl, ⟨by omega, by omega, by omega, by omega, by omega, by omega⟩, by omega, ?_, fun _ => ⟨rfl, rfl⟩, fun e => by omega⟩
  intro p h0 h1
  unfold lineE
  (repeat' split) <;> omega
 ·rw [if_neg h]
  have hs1 : s1 = 0 := by omega
  subst hs1
  rw [emod_two (by omega) (by omega) (by omega)]
  refine ⟨_, N, rfl, ⟨by omega, by omega, by split <;> omega, by split <;> omega, by omega, by omega⟩, by omega, ?_, fun e => by omega, fun _ => ⟨rfl, rfl⟩⟩
  intro p h0 h1
  unfold lineE
  (repeat' split) <;> omega
end Go.Gb
namespace Go.Gb
open Go.Proofs IntWalk
theorem u64_w (x : Int) : IntKind.u64.wrap x = x % 18446744073709551616 := wrapU .u64 rfl x
theorem u32_w (x : Int) : IntKind.u32.wrap x = x % 4294967296 := wrapU .u32 rfl x
theorem withN_low {w a n v : Nat} (h : a + n ≤ 64) (hw : w < 2 ^ a) : withN w a n v = w + 2 ^ a * (v % 2 ^ n) := by
 have hw64 : w < 18446744073709551616 := Nat.lt_of_lt_of_le hw (Nat.pow_le_pow_right (n := 2) (by omega) (by omega : a ≤ 64))
 apply Nat.eq_of_testBit_eq
 intro i
 rw [withN_test h hw64, Nat.add_comm w, Nat.testBit_two_pow_mul_add _ hw, Nat.testBit_mod_two_pow]
 by_cases h1 : i < a
 ·rw [if_neg (by omega), if_pos h1]
 ·rw [if_neg h1]
  by_cases h2 : i < a + n
  ·rw [if_pos ⟨by omega, h2⟩]
   have : i - a < n := by omega
   simp [this]
  ·rw [if_neg (by omega)]
   have h3 : ¬ (i - a < n) := by omega
   simp [h3]
   exact Nat.testBit_lt_two_pow (Nat.lt_of_lt_of_le hw (Nat.pow_le_pow_right (n := 2) (by omega) (by omega : a ≤ i)))
def pk (s0 s1 s2 : Int) : Int := s0 % 65536 + 65536 * (s1 % 65536) + 4294967296 * s2
theorem withV_at (w a n v : Nat) (a' n' : Int) (ha : a' = a) (hn : n' = n) (h1 : 1 ≤ n) (h : a + n ≤ 64) : withV w a' n' v = withN w a n v := by
 subst ha hn
 unfold withV
 rw [if_pos ⟨by omega, by omega, by omega, by omega⟩]; simp
theorem fieldV_at (w a n : Nat) (a' n' : Int) (ha : a' = a) (hn : n' = n) (h1 : 1 ≤ n) (h : a + n ≤ 64) : fieldV w a' n' = fieldN w a n := by
 subst ha hn
 unfold fieldV
 rw [if_pos ⟨by omega, by omega, by omega, by omega⟩]; simp
theorem K122.c {s0 s1 s2 : Int} {h : Heap} {Q : QT} (h2 : 0 ≤ s2) (h3 : s2 ≤ 4294967295) (hq : Q (.int .u64 (pk s0 s1 s2)) h) : CT 122 #[.agg #[.int .i64 s0, .int .i64 s1, .int .u32 s2]] h Q := by
 apply K122.ok
 unfold K122.wp
 rw [u64_w, u64_w, u64_w]
 have hb : ∀ x : Int, ∃ n : Nat, x % 18446744073709551616 = n ∧ n < 18446744073709551616 := fun x => ⟨(x % 18446744073709551616).toNat, by omega, by omega⟩
 obtain ⟨A, hA, hA'⟩ := hb s0
 obtain ⟨B, hB, hB'⟩ := hb s1
 obtain ⟨D, hD, hD'⟩ := hb s2
 rw [hA, hB, hD]
 refine K94.c (w := 0) (by omega) hA' ⟨_, rfl, ?_⟩
 rw [withV_at 0 0 16 A 0 16 rfl rfl (by omega) (by omega), withN_low (by omega) (by omega)]
 refine K94.c (by omega) hB' ⟨_, rfl, ?_⟩
 rw [withV_at _ 16 16 B 16 16 rfl rfl (by omega) (by omega), withN_low (by omega) (by omega)]
 refine K94.c (by omega) hD' ⟨_, rfl, ?_⟩
 rw [withV_at _ 32 32 D 32 32 rfl rfl (by omega) (by omega), withN_low (by omega) (by omega)]
 have e : ((0 + 2 ^ 0 * (A % 2 ^ 16) + 2 ^ 16 * (B % 2 ^ 16) + 2 ^ 32 * (D % 2 ^ 32) : Nat) : Int) = pk s0 s1 s2 := by
  unfold pk; omega
 rw [e]; exact hq
theorem K129.c {w : Nat} {h : Heap} {Q : QT} (hw : w < 18446744073709551616) (hq : Q (.agg #[.int .i64 (w % 65536 : Nat), .int .i64 (w / 65536 % 65536 : Nat), .int .u32 (w / 4294967296 : Nat)]) h) : CT 129 #[.int .u64 w] h Q := by
 apply K129.ok
 unfold K129.wp
 refine K131.c hw ⟨_, rfl, ?_⟩
 refine K131.c hw ⟨_, rfl, ?_⟩
 refine K131.c hw ⟨_, rfl, ?_⟩
 rw [fieldV_at w 0 16 0 16 rfl rfl (by omega) (by omega), fieldV_at w 16 16 16 16 rfl rfl (by omega) (by omega), fieldV_at w 32 32 32 32 rfl rfl (by omega) (by omega)]
 have e1 : fieldN w 0 16 = w % 65536 := by unfold fieldN; simp
 have e2 : fieldN w 16 16 = w / 65536 % 65536 := rfl
 have e3 : fieldN w 32 32 = w / 4294967296 := by unfold fieldN; exact Nat.mod_eq_of_lt (by omega)
 rw [e1, e2, e3, i64_in _ (by omega), i64_in _ (by omega), u32_in _ (by omega)]
 exact hq
end Go.Gb
namespace Go.Gb
open Go.Proofs IntWalk
def permV (m h a b c d : Nat) : Value := .agg #[.int .i64 m, .int .i64 h, .int .u16 a, .int .u16 b, .int .u16 c, .int .u16 d]
theorem pow_le7 {h : Nat} (h7 : h ≤ 7) : 2 ^ h ≤ 128 ∧ 1 ≤ 2 ^ h := ⟨(Nat.pow_le_pow_right (by omega) h7 : 2 ^ h ≤ 2 ^ 7), Nat.two_pow_pos h⟩
theorem K147.c {m hh a b c d : Nat} {h : Heap} {Q : QT} (h7 : hh ≤ 7) (hq : Q (.int .i64 (2 ^ hh - 1 : Nat)) h) : CT 147 #[permV m hh a b c d] h Q := by
 apply K147.ok
 unfold K147.wp
 have := pow_le7 h7
 rw [show (1 : Int) = ((1 : Nat) : Int) from rfl, ishl_i64 (by omega) (by omega), Nat.one_mul, i64_in _ (by omega)]
 refine ⟨by omega, ?_⟩
 have e : ((2 ^ hh : Nat) : Int) - ((1 : Nat) : Int) = ((2 ^ hh - 1 : Nat) : Int) := by omega
 rw [e]; exact hq
theorem u16_wm (x : Int) : IntKind.u16.wrap x = x % 65536 := wrapU .u16 rfl x
theorem K148.c {m hh a b c d x k : Nat} {h : Heap} {Q : QT} (h7 : hh ≤ 7) (hx : x < 2 ^ hh) (hk : k < 65536) (hq : Q (.int .i64 (mixN hh x k)) h) : CT 148 #[permV m hh a b c d, .int .i64 x, .int .u16 k] h Q := by
 apply K148.ok
 unfold K148.wp
 refine K147.c h7 ⟨_, rfl, ?_⟩
 have hp := pow_le7 h7
 have e : IntKind.u16.wrap (IntKind.u16.wrap (IntKind.u16.wrap (IntKind.u16.wrap (x : Int) * 40503) + IntKind.u16.wrap ((k : Int) * 52711)) + 12289) = ((yN x k : Nat) : Int) := by
  simp only [u16_wm]
  unfold yN
  omega
 have hy : yN x k < 65536 := Nat.mod_lt _ (by omega)
 have hz : yN x k ^^^ yN x k / 128 < 65536 := Nat.xor_lt_two_pow (n := 16) hy (Nat.lt_of_le_of_lt (Nat.div_le_self _ _) hy)
 rw [e, show (7 : Int) = ((7 : Nat) : Int) from rfl, ishr_u16 (by omega), show (2 : Nat) ^ 7 = 128 from rfl, ixor_u16 hy (Nat.lt_of_le_of_lt (Nat.div_le_self _ _) hy), i64_in _ (by omega), iand_i64 (by omega) (by omega), Nat.and_two_pow_sub_one_eq_mod]
 exact hq
theorem turn_step {m hh a b c d l r k : Nat} {t0 t1 t2 t3 : Int} {j : Nat} {h : Heap} {Q : QT} (h7 : hh ≤ 7) (hl : l < 2 ^ hh) (hr : r < 2 ^ hh) (hk : k < 65536) (hj : j < 4)
  (hg : lget [.int .u16 t0, .int .u16 t1, .int .u16 t2, .int .u16 t3] j = some (.int .u16 k))
  (hq : K108.L3 (rnd hh k (l, r)).1 (rnd hh k (l, r)).2 t0 t1 t2 t3 ((j + 1 : Nat) : Int) m hh a b c d h Q) : K108.L3 l r t0 t1 t2 t3 (j : Int) m hh a b c d h Q := by
 apply K108.L3.ok
 unfold K108.L3.wp
 have hp := pow_le7 h7
 refine xsIf_t (by simp; omega) ⟨by omega, k, by rw [Int.toNat_natCast, Nat.mul_one]; exact hg, ?_⟩
 refine K148.c h7 hr hk ⟨_, rfl, ?_⟩
 have := mixN_lt hh r k
 rw [ixor_i64 (by omega) (by omega), i64_in _ (by omega)]
 exact hq
theorem K108.c {m hh a b c d n : Nat} {h : Heap} {Q : QT} (h7 : hh ≤ 7) (ha : a < 65536) (hb : b < 65536) (hc : c < 65536) (hd : d < 65536) (hn : n < 2 ^ hh * 2 ^ hh) (hq : Q (.int .i64 (turnN hh a b c d n)) h) :
  CT 108 #[permV m hh a b c d, .int .i64 n] h Q := by
 apply K108.ok
 unfold K108.wp
 have hp := pow_le7 h7
 have hpp : 2 ^ hh * 2 ^ hh ≤ 128 * 128 := Nat.mul_le_mul hp.1 hp.1
 refine ⟨by omega, K147.c h7 ⟨_, rfl, ?_⟩⟩
 rw [ishr_i64 (by omega), iand_i64 (by omega) (by omega), Nat.and_two_pow_sub_one_eq_mod]
 have i0 : InP hh (dec hh n) := dec_in hn
 have i1 := rnd_in (k := a) i0
 have i2 := rnd_in (k := b) i1
 have i3 := rnd_in (k := c) i2
 have i4 := rnd_in (k := d) i3
 refine turn_step (j := 0) h7 i0.1 i0.2 ha (by omega) rfl ?_
 refine turn_step (j := 1) h7 i1.1 i1.2 hb (by omega) rfl ?_
 refine turn_step (j := 2) h7 i2.1 i2.2 hc (by omega) rfl ?_
 refine turn_step (j := 3) h7 i3.1 i3.2 hd (by omega) rfl ?_
 apply K108.L3.ok
 unfold K108.L3.wp
 refine xsIf_f (by simp) ⟨by omega, ?_⟩
 have e4 : (rnd hh d ((rnd hh c ((rnd hh b ((rnd hh a (dec hh n)).1, (rnd hh a (dec hh n)).2)).1, (rnd hh b ((rnd hh a (dec hh n)).1, (rnd hh a (dec hh n)).2)).2)).1, (rnd hh c ((rnd hh b ((rnd hh a (dec hh n)).1, (rnd hh a (dec hh n)).2)).1, (rnd hh b ((rnd hh a (dec hh n)).1, (rnd hh a (dec hh n)).2)).2)).2)) = turnP hh a b c d (dec hh n) := rfl
 have hlt : (turnP hh a b c d (dec hh n)).1 * 2 ^ hh ≤ 128 * 128 := Nat.mul_le_mul (by have := i4.1; exact Nat.le_trans (Nat.le_of_lt this) hp.1) hp.1
 have hr := i4.2
 have hq' : Q (.int .i64 (ior .i64 (ishl .i64 (((turnP hh a b c d (dec hh n)).1 : Nat) : Int) hh) (((turnP hh a b c d (dec hh n)).2 : Nat) : Int))) h := by
  have hr' : (turnP hh a b c d (dec hh n)).2 < 2 ^ hh := i4.2
  rw [ishl_i64 (by omega) (by omega), ior_i64 (by omega) (by omega), Nat.mul_comm, ← Nat.two_pow_add_eq_or_of_lt hr']
  have e : 2 ^ hh * (turnP hh a b c d (dec hh n)).1 + (turnP hh a b c d (dec hh n)).2 = turnN hh a b c d n := by unfold turnN enc; rw [Nat.mul_comm]
  rw [e]; exact hq
 exact hq'
def permL (m h a b c d : Nat) : List Value := [.int .i64 m, .int .i64 h, .int .u16 a, .int .u16 b, .int .u16 c, .int .u16 d]
theorem K107.L4.c {f : Nat → Nat} {step m hh a b c d k M : Nat} {sa : Array Value} {h : Heap} {Q : QT} (hgo : goOk Tryz.prog step = true) (hk : k < m)
  (hs : ∀ n Q, n < M → Q (Value.int .i64 (f n)) h → CT step (sa.toList ++ [Value.int .i64 n] ++ (#[] : Array Value).toList).toArray h Q) (hf : ∀ n, n < M → f n < M)
  (hq : Q (.int .i64 k) h) : ∀ (J i : Nat), i < M → iter f J i = k → (∀ t, t < J → m ≤ iter f t i) →
  K107.L4 i step sa #[] m hh a b c d h Q := by
 intro J
 induction J with
 | zero =>
  intro i hi e hl
  apply K107.L4.ok
  have : i = k := e
  subst this
  exact xsIf_f (by simp; omega) hq
 | succ J ih =>
  intro i hi e hl
  apply K107.L4.ok
  have h0 : m ≤ i := hl 0 (by omega)
  refine xsIf_t (by simp; omega) (xsIf_t hgo (hs i _ hi ⟨_, rfl, ?_⟩))
  exact ih (f i) (hf i hi) e fun t ht => hl (t + 1) (by omega)
theorem walk_in {f : Nat → Nat} {step m hh a b c d i k M : Nat} {sa : Array Value} {h : Heap} {Q : QT} (hgo : goOk Tryz.prog step = true)
  (hs : ∀ n Q, n < M → Q (Value.int .i64 (f n)) h → CT step (sa.toList ++ [Value.int .i64 n] ++ (#[] : Array Value).toList).toArray h Q) (hf : ∀ n, n < M → f n < M) (hm : m ≤ M) (hi : i < m)
  (hg : Goes f m i k) (hq : Q (.int .i64 k) h) :
  CT 107 #[permV m hh a b c d, .int .i64 i, .func (.func step) sa #[]] h Q := by
 obtain ⟨hk, J, e, hl⟩ := hg
 apply K107.ok
 unfold K107.wp
 refine xsIf_f (by simp) (xsIf_f (by simp; omega) (xsIf_t hgo (hs i _ (by omega) ⟨_, rfl, ?_⟩)))
 exact K107.L4.c hgo hk hs hf hq J (f i) (hf i (by omega)) e fun t ht => hl t ht
theorem go50 : goOk Tryz.prog 108 = true := by kernel_rfl
structure Perm (m hh a b c d : Nat) : Prop where
 h7 : hh ≤ 7
 fit : m ≤ 2 ^ hh * 2 ^ hh
 ka : a < 65536
 kb : b < 65536
 kc : c < 65536
 kd : d < 65536
theorem K73.c {m hh a b c d i k : Nat} {h : Heap} {Q : QT} (p : Perm m hh a b c d) (hi : i < m) (hg : Goes (turnN hh a b c d) m i k) (hq : Q (.int .i64 k) h) : CT 73 #[permV m hh a b c d, .int .i64 i] h Q := by
 apply K73.ok
 exact walk_in (f := turnN hh a b c d) (M := 2 ^ hh * 2 ^ hh) go50 (fun n Q hn hq => K108.c p.h7 p.ka p.kb p.kc p.kd hn hq) (turn_perm hh a b c d).lt p.fit hi hg ⟨_, rfl, hq⟩
end Go.Gb
namespace Go.Gb
open Go.Proofs IntWalk
theorem halfN_at {m : Nat} : (halfN m = 1 ∧ m ≤ 4) ∨ (halfN m = 2 ∧ 4 < m ∧ m ≤ 16) ∨ (halfN m = 3 ∧ 16 < m ∧ m ≤ 64) ∨ (halfN m = 4 ∧ 64 < m ∧ m ≤ 256) ∨ (halfN m = 5 ∧ 256 < m ∧ m ≤ 1024) ∨ (halfN m = 6 ∧ 1024 < m ∧ m ≤ 4096) ∨ (halfN m = 7 ∧ 4096 < m) := by
 unfold halfN
 (repeat' split) <;> omega
theorem half_step {m x : Nat} (hm : m ≤ 8192) (h1 : 1 ≤ x) (h2 : x ≤ halfN m) : (2 ^ (2 * x) < m ↔ x < halfN m) := by
 have hv := halfN_at (m := m)
 have hx : (x = 1 ∧ 2 ^ (2 * x) = 4) ∨ (x = 2 ∧ 2 ^ (2 * x) = 16) ∨ (x = 3 ∧ 2 ^ (2 * x) = 64) ∨ (x = 4 ∧ 2 ^ (2 * x) = 256) ∨ (x = 5 ∧ 2 ^ (2 * x) = 1024) ∨ (x = 6 ∧ 2 ^ (2 * x) = 4096) ∨ (x = 7 ∧ 2 ^ (2 * x) = 16384) := by
  have : x = 1 ∨ x = 2 ∨ x = 3 ∨ x = 4 ∨ x = 5 ∨ x = 6 ∨ x = 7 := by omega
  rcases this with rfl | rfl | rfl | rfl | rfl | rfl | rfl <;> simp
 generalize 2 ^ (2 * x) = z at hx ⊢
 generalize halfN m = w at *
 omega
theorem keyN_lt (key j : Nat) : keyN key j < 65536 := Nat.mod_lt _ (by omega)
theorem key_field {key j : Nat} (hj : j < 4) : IntKind.u16.wrap ((fieldV key ((16 * j : Nat) : Int) 16 : Nat) : Int) = (keyN key j : Nat) := by
 have e : fieldV key ((16 * j : Nat) : Int) 16 = keyN key j := by
  unfold fieldV
  rw [if_pos ⟨by omega, by omega, by omega, by omega⟩]
  simp only [Int.toNat_natCast]
  rfl
 rw [e, u16_nat' (keyN_lt key j)]
theorem new_key {key j : Nat} {p : List Value} {t0 t1 t2 t3 t4 t5 : Int} {h : Heap} {Q : QT} (hk : key < 18446744073709551616) (hj : j < 4) (hl : p.length = 6)
  (hq : K91.L7 key ((j + 1 : Nat) : Int) t0 t1 t2 t3 t4 t5 (lput p (2 + j) [.int .u16 (keyN key j : Nat)]) h Q) : K91.L7 key (j : Int) t0 t1 t2 t3 t4 t5 p h Q := by
 apply K91.L7.ok
 unfold K91.L7.wp
 refine xsIf_t (by simp; omega) ?_
 rw [show (16 : Int) * (j : Int) = ((16 * j : Nat) : Int) by omega, i64_in _ (by omega)]
 refine K131.c hk ⟨_, rfl, by omega, by omega, ?_⟩
 rw [key_field hj, Int.toNat_natCast, Nat.mul_one, i64_in _ (by omega)]
 exact hq
def newV (m key : Nat) : Value := permV m (halfN m) (keyN key 0) (keyN key 1) (keyN key 2) (keyN key 3)
theorem new_perm {m : Nat} (key : Nat) (hm : m ≤ 8192) : Perm m (halfN m) (keyN key 0) (keyN key 1) (keyN key 2) (keyN key 3) :=
 ⟨(halfN_le hm).2.1, (halfN_le hm).2.2, keyN_lt key 0, keyN_lt key 1, keyN_lt key 2, keyN_lt key 3⟩
theorem K91.L4.c {m key : Nat} {t0 t1 t2 t3 t4 t5 : Int} {h : Heap} {Q : QT} (hm : m ≤ 8192) (hk : key < 18446744073709551616) (hq : Q (.tuple #[newV m key, .int .i64 0]) h) :
  ∀ (j x : Nat), 1 ≤ x → x + j = halfN m → K91.L4 m key t0 t1 t2 t3 t4 t5 (permL m x 0 0 0 0) h Q := by
 have h7 := (halfN_le hm).2.1
 intro j
 induction j with
 | zero =>
  intro x h1 hx
  have hs := half_step hm h1 (by omega)
  apply K91.L4.ok
  refine ⟨x, rfl, ?_⟩
  rw [show (2 : Int) * (x : Int) = ((2 * x : Nat) : Int) by omega, i64_in _ (by omega)]
  have hp : 2 ^ (2 * x) ≤ 2 ^ 14 := Nat.pow_le_pow_right (by omega) (by omega)
  rw [show (1 : Int) = ((1 : Nat) : Int) from rfl, ishl_i64 (by omega) (by omega), Nat.one_mul]
  refine ⟨by omega, xsIf_f (by simp only [decide_eq_false_iff_not]; omega) ?_⟩
  apply K91.J6.ok
  have hxh : x = halfN m := by omega
  subst hxh
  refine new_key (j := 0) hk (by omega) rfl ?_
  refine new_key (j := 1) hk (by omega) rfl ?_
  refine new_key (j := 2) hk (by omega) rfl ?_
  refine new_key (j := 3) hk (by omega) rfl ?_
  apply K91.L7.ok
  refine xsIf_f (by simp) ⟨Nat.le_refl 6, _, rfl, _, rfl, _, rfl, _, rfl, _, rfl, _, rfl, hq⟩
 | succ j ih =>
  intro x h1 hx
  have hs := half_step hm h1 (by omega)
  apply K91.L4.ok
  refine ⟨x, rfl, ?_⟩
  rw [show (2 : Int) * (x : Int) = ((2 * x : Nat) : Int) by omega, i64_in _ (by omega)]
  have hp : 2 ^ (2 * x) ≤ 2 ^ 14 := Nat.pow_le_pow_right (by omega) (by omega)
  rw [show (1 : Int) = ((1 : Nat) : Int) from rfl, ishl_i64 (by omega) (by omega), Nat.one_mul]
  refine ⟨by omega, xsIf_t (by simp only [decide_eq_true_eq]; omega) ⟨x, rfl, (by show 2 ≤ 6; omega), ?_⟩⟩
  rw [i64_in _ (by omega)]
  exact ih (x + 1) (by omega) (by omega)
theorem K91.c {m key : Nat} {h : Heap} {Q : QT} (h1 : 1 ≤ m) (hm : m ≤ 8192) (hk : key < 18446744073709551616) (hq : Q (.tuple #[newV m key, .int .i64 0]) h) : CT 91 #[.int .i64 m, .int .u64 key] h Q := by
 apply K91.ok
 unfold K91.wp
 refine xsIf_f (by simp; omega) (xsIf_f (by simp; omega) ?_)
 apply K91.J3.ok
 refine ⟨Nat.le_refl 6, ?_⟩
 exact K91.L4.c hm hk hq (halfN m - 1) 1 (Nat.le_refl 1) (by have := (halfN_le hm).1; omega)
end Go.Gb
namespace Go.Gb
open Go.Proofs IntWalk
theorem new_goes {m : Nat} (key : Nat) (hm : m ≤ 8192) {i : Nat} (hi : i < m) : ∃ k, Goes (turnN (halfN m) (keyN key 0) (keyN key 1) (keyN key 2) (keyN key 3)) m i k :=
 (turn_perm _ _ _ _ _).goes (new_perm key hm).fit hi
end Go.Gb
namespace Go.Gb
open Go.Proofs IntWalk
end Go.Gb
