/- Own texts for the seat: Df1 G2 G3 G4 G8 Crc1 Crc2 Crc3 G1 G5 G6 G7 G10 G11 G12 G14. -/
import Derived.Test.YtjdleeamgmkbkaaGreatW
import Derived.Test.YtjdleeamgmkbkaaGreatA6
import Derived.Test.YtjdleeamgmkbkaaGreatA10
import Derived.Test.YtjdleeamgmkbkaaGreatB1
set_option linter.unusedVariables false
set_option linter.unusedSimpArgs false
set_option linter.unnecessarySimpa false
set_option linter.deprecated false
namespace Go.Gb
open Go.Proofs IntWalk
theorem setL_before : ∀ (vs cs : List Value) (o j : Nat), j < o → (setL cs o vs)[j]? = cs[j]? := by
 intro vs
 induction vs with
 | nil => intro cs o j _; rfl
 | cons v r ih =>
  intro cs o j h
  show (setL (cs.set o v) (o + 1) r)[j]? = _
  rw [ih _ _ _ (by omega), List.getElem?_set_ne (by omega)]
section
variable {h : Heap} {Q : QT} {b0 cp : Nat} {cs : List Value} {ws : List Nat} {p : Nat → Bool} {del : Nat} {da dc : Array Value}
def DelOk (h : Heap) (b0 : Nat) (ws : List Nat) (p : Nat → Bool) (del : Nat) (da dc : Array Value) : Prop :=
 ∀ (h' : Heap) (Q' : QT) (w : Nat), w ∈ ws → (∀ k, k ≠ b0 → h' k = h k) → Q' (.bool (p w)) h' → CT del (List.toArray (da.toList ++ [.int .i64 (w : Int)] ++ dc.toList)) h' Q'
def Firsts (cs : List Value) (i : Nat) (l : List Nat) : Prop := i = l.length ∧ ∀ k, k < l.length → cs[k]? = some (.int .i64 ((l.getD k 0 : Nat) : Int))
def Lasts (cs : List Value) (j : Nat) (ws : List Nat) : Prop := ∀ k, j ≤ k → k < ws.length → cs[k]? = some (.int .i64 ((ws.getD k 0 : Nat) : Int))
theorem getD_mem {ws : List Nat} {k : Nat} (h : k < ws.length) : ws.getD k 0 ∈ ws := by rw [List.getD_eq_getElem?_getD]; simp [h]
theorem take_getD {ws : List Nat} {k : Nat} (h : k < ws.length) : ws.take (k + 1) = ws.take k ++ [ws.getD k 0] := by rw [List.take_succ, List.getD_eq_getElem?_getD]; simp [h]
theorem K185.L2.c (hg : goOk Tryz.prog del = true) (hd : DelOk h b0 ws p del da dc) (hb : Blk h b0 cs) (hl : Lasts cs 0 ws) (hn : ws.length < 1000000) : ∀ (j k : Nat), k + j = ws.length → (∀ w ∈ ws.take k, p w = false) →
  (∀ i, i < ws.length → p (ws.getD i 0) = true → (∀ w ∈ ws.take i, p w = false) → Q (.int .i64 (i : Int)) h) → ((∀ w ∈ ws, p w = false) → Q (.int .i64 (-1)) h) → K185.L2 (some ⟨b0, 0, none⟩) ws.length cp del da dc (ws.length : Int) (k : Int) h Q := by
 intro j
 induction j with
 | zero =>
  intro k hk hp h1 h2
  apply K185.L2.ok
  have e : k = ws.length := by omega
  subst e
  rw [List.take_length] at hp
  exact xsIf_f (by simp) (h2 hp)
 | succ j ih =>
  intro k hk hp h1 h2
  apply K185.L2.ok
  have hk' : k < ws.length := by omega
  have e2 : IntKind.i64.wrap ((k : Int) + 1) = ((k + 1 : Nat) : Int) := by rw [i64_in _ (by omega)]; omega
  refine xsIf_t (decide_eq_true (by omega)) ⟨⟨by omega, by omega⟩, b0, 0, rfl, _, by rw [hb.cell, show 0 + (k : Int).toNat * 1 = k by omega]; exact hl k (by omega) hk', xsIf_t hg (hd h _ _ (getD_mem hk') (fun _ _ => rfl) ⟨_, rfl, xsIf_intro (fun hp1 => h1 k hk' hp1 hp) (fun hp1 => ?_)⟩)⟩
  rw [e2]
  refine ih (k + 1) (by omega) ?_ h1 h2
  rw [take_getD hk']
  intro w hw
  rcases List.mem_append.1 hw with h3 | h3
  ·exact hp w h3
  ·simp only [List.mem_singleton] at h3; rw [h3]; exact hp1
theorem K110.L5.c (hg : goOk Tryz.prog del = true) (hd : DelOk h b0 ws p del da dc) (hn : ws.length < 1000000) (hcp : ws.length ≤ cp)
  (hq : ∀ h' cs', Blk h' b0 cs' → Firsts cs' (ws.filter fun w => !p w).length (ws.filter fun w => !p w) → (∀ k, k ≠ b0 → h' k = h k) → Q (.slice (some ⟨b0, 0, none⟩) (ws.filter fun w => !p w).length cp) h') :
  ∀ (m j i : Nat) (h2 : Heap) (cs : List Value), j + m = ws.length → i ≤ j → Blk h2 b0 cs → cs.length = cp → Firsts cs i ((ws.take j).filter fun w => !p w) → Lasts cs j ws → (∀ k, k ≠ b0 → h2 k = h k) →
   K110.L5 (some ⟨b0, 0, none⟩) ws.length cp del da dc (i : Int) (j : Int) h2 Q := by
 intro m
 induction m with
 | zero =>
  intro j i h2 cs hj hij hb hlen hf hl hs
  have e : j = ws.length := by omega
  subst e
  rw [List.take_length] at hf
  apply K110.L5.ok
  have hbase : slBase (some (⟨b0, 0, none⟩ : Addr)) (cp : Int) 0 1 = some ⟨b0, 0, none⟩ := by unfold slBase; split <;> simp [Addr.add]
  have ei : ((i : Int) - 0).toNat = i := by omega
  have ec : ((cp : Int) - 0).toNat = cp := by omega
  refine xsIf_f (by simp) ⟨⟨by omega, by omega⟩, fun h0 => ⟨⟨by omega, by omega⟩, ?_⟩, fun h0 => ?_⟩
  ·rw [hbase, ei, ec, hf.1]
   refine hq h2 cs hb ?_ hs
   exact ⟨rfl, hf.2⟩
  ·have hb1 : slBase (some (⟨b0, 0, none⟩ : Addr)) (cp : Int) (i : Int) 1 = some ⟨b0, i, none⟩ := by
    unfold slBase
    rw [if_neg (by omega)]
    simp [Addr.add]
    try omega
   rw [hb1]
   refine ⟨b0, i, rfl, hb.can (by omega), ⟨by omega, by omega⟩, ?_⟩
   rw [hbase, ei, ec, hf.1]
   refine hq _ _ (hb.put _ _) ⟨rfl, fun k hk => ?_⟩ fun k hk => by rw [put_other _ _ _ hk]; exact hs k hk
   have hki : k < i := by rw [hf.1]; exact hk
   rw [hf.1] at hki
   rw [setL_before _ _ _ _ hki]
   exact hf.2 k hk
 | succ m ih =>
  intro j i h2 cs hj hij hb hlen hf hl hs
  apply K110.L5.ok
  have hj' : j < ws.length := by omega
  have e1 : IntKind.i64.wrap ((i : Int) + 1) = ((i + 1 : Nat) : Int) := by rw [i64_in _ (by omega)]; omega
  have e2 : IntKind.i64.wrap ((j : Int) + 1) = ((j + 1 : Nat) : Int) := by rw [i64_in _ (by omega)]; omega
  have hc := hl j (by omega) hj'
  refine xsIf_t (decide_eq_true (by omega)) ⟨⟨by omega, by omega⟩, b0, 0, rfl, _, by rw [hb.cell, show 0 + (j : Int).toNat * 1 = j by omega]; exact hc, xsIf_t hg (hd h2 _ _ (getD_mem hj') hs ⟨_, rfl, xsIf_intro (fun hp1 => ?_) (fun hp1 => ?_)⟩)⟩
  ·have hp1 : p (ws.getD j 0) = false := by rw [Bool.not_eq_true'] at hp1; exact hp1
   have hil : i < cs.length := by omega
   refine ⟨⟨by omega, by omega⟩, b0, 0, rfl, hb.can (by omega), ?_⟩
   rw [e1, e2, show 0 + (i : Int).toNat * 1 = i by omega]
   have hb2 := hb.put i [.int .i64 ((ws.getD j 0 : Nat) : Int)]
   rw [setL_one] at hb2
   refine ih (j + 1) (i + 1) _ _ (by omega) (by omega) hb2 (by rw [List.length_set]; exact hlen) ?_ ?_ fun k hk => by rw [put_other _ _ _ hk]; exact hs k hk
   ·rw [take_getD hj', List.filter_append]
    have hfs : List.filter (fun w => !p w) [ws.getD j 0] = [ws.getD j 0] := by rw [List.filter_cons, hp1]; rfl
    rw [hfs]
    refine ⟨by rw [List.length_append, ← hf.1]; rfl, fun k hk => ?_⟩
    rw [List.length_append, ← hf.1] at hk
    have hk : k < i + 1 := hk
    rw [List.getElem?_set]
    by_cases e : i = k
    ·subst e
     rw [if_pos rfl, if_pos hil]
     rw [List.getD_eq_getElem?_getD (l := List.filter _ _ ++ _), List.getElem?_append_right (by rw [← hf.1]; omega), ← hf.1]
     simp
    ·rw [if_neg e, hf.2 k (by rw [← hf.1]; omega)]
     rw [List.getD_eq_getElem?_getD (l := List.filter _ _ ++ _), List.getElem?_append_left (by rw [← hf.1]; omega), ← List.getD_eq_getElem?_getD]
   ·intro k hk1 hk2
    rw [List.getElem?_set_ne (by omega)]
    exact hl k (by omega) hk2
  ·have hp1 : p (ws.getD j 0) = true := by rw [Bool.not_eq_false'] at hp1; exact hp1
   rw [e2]
   refine ih (j + 1) i h2 cs (by omega) (by omega) hb hlen ?_ (fun k hk1 hk2 => hl k (by omega) hk2) hs
   rw [take_getD hj', List.filter_append]
   have hfs : List.filter (fun w => !p w) [ws.getD j 0] = [] := by rw [List.filter_cons, hp1]; rfl
   rw [hfs, List.append_nil]
   exact hf
end
end Go.Gb
namespace Go.Gb
open Go.Proofs IntWalk
def putL : Nat → Nat → List UInt8
 | _, 0 => []
 | n, k + 1 => UInt8.ofNat n :: putL (n / 256) k
def getL : List UInt8 → Nat
 | [] => 0
 | b :: r => b.toNat + 256 * getL r
theorem putL_length (k : Nat) : ∀ n, (putL n k).length = k := by
 induction k with
 | zero => intro n; rfl
 | succ k ih => intro n; simp [putL, ih]
theorem getL_put (k : Nat) : ∀ n, getL (putL n k) = n % 256 ^ k := by
 induction k with
 | zero => intro n; simp [putL, getL, Nat.mod_one]
 | succ k ih =>
  intro n
  simp only [putL, getL, ih]
  rw [Nat.pow_succ, Nat.mul_comm (256 ^ k) 256, Nat.mod_mul, UInt8.toNat_ofNat']
theorem getL_lt (l : List UInt8) : getL l < 256 ^ l.length := by
 induction l with
 | nil => simp [getL]
 | cons b r ih =>
  simp only [getL, List.length_cons, Nat.pow_succ]
  have := b.toNat_lt
  omega
theorem putL_get (l : List UInt8) : putL (getL l) l.length = l := by
 induction l with
 | nil => rfl
 | cons b r ih =>
  simp only [getL, List.length_cons, putL]
  have := b.toNat_lt
  have e1 : (b.toNat + 256 * getL r) / 256 = getL r := by omega
  rw [e1, ih]
  congr 1
  apply UInt8.toNat_inj.1
  rw [UInt8.toNat_ofNat']
  omega
theorem getL_append (a b : List UInt8) : getL (a ++ b) = getL a + 256 ^ a.length * getL b := by
 induction a with
 | nil => simp [getL]
 | cons x a ih => simp only [List.cons_append, getL, ih, List.length_cons, Nat.pow_succ]; rw [Nat.mul_add, Nat.mul_comm (256 ^ a.length) 256, Nat.mul_assoc]; omega
theorem byteVals_snoc (bs : List UInt8) (n : Nat) : byteVals bs ++ [Value.int .u8 (IntKind.u8.wrap (n : Int))] = byteVals (bs ++ [UInt8.ofNat n]) := by
 unfold byteVals
 rw [List.map_append]
 congr 1
theorem Own.str {h0 h : Heap} {T : TypeId} {a : Option Addr} {n c : Nat} {bs : List UInt8} {K : ByteArray → Prop} (w : Own h0 h T 1 a n c (byteVals bs)) (hk : K ⟨bs.toArray⟩) : xsStr h a n K :=
 ⟨bs, by have := w.len; simpa [byteVals] using this, w.reads, hk⟩
theorem bytes_cells : cellSize Tryz.prog 5 = 1 ∧ (cellZero Tryz.prog 5).length = 1 ∧ cellBytes Tryz.prog 5 = 1 := ⟨by kernel_rfl, by kernel_rfl, by kernel_rfl⟩
theorem Own.byte {h0 h : Heap} {a : Option Addr} {n c b1 v : Nat} {bs : List UInt8} {K : Option Addr → Nat → Nat → Heap → Prop} (w : Own h0 h 5 1 a n c (byteVals bs)) (hn : n ≤ 1000000) (hb : h b1 = none)
  (hk : ∀ a' c' h', Own h0 h' 5 1 a' (n + 1) c' (byteVals (bs ++ [UInt8.ofNat v])) → K a' (n + 1) c' h') :
  xsApp Tryz.prog 5 (upd h b1 (.cells #[.int .u8 (IntKind.u8.wrap (v : Int))] 5 (0, 0))) a n c (some ⟨b1, 0, none⟩) 1 K := by
 refine Own.append (m := 1) (new := [.int .u8 (IntKind.u8.wrap (v : Int))]) (w.keep (Part.upd hb _)) bytes_cells.1 (by omega) rfl rfl (readsAt_new 5 _) bytes_cells.2.1 (by rw [bytes_cells.2.2]; omega) ?_
 intro a' c' h' o
 rw [byteVals_snoc] at o
 exact hk _ _ _ o
theorem K149.L3.c {h0 : Heap} {Q : QT} {t8 : Int} (ht : t8 ≤ 8) : ∀ (j : Nat) (t9 : Int) (n : Nat) (bs : List UInt8) (a : Option Addr) (m c : Nat) (h : Heap),
  0 ≤ t9 → t9 + j = t8 → n < 18446744073709551616 → m ≤ t9 → Own h0 h 5 1 a m c (byteVals bs) → (∀ h', Part h0 h' → Q (.string ⟨(bs ++ putL n j).toArray⟩) h') →
  K149.L3 n a m c t8 t9 h Q := by
 intro j
 induction j with
 | zero =>
  intro t9 n bs a m c h h1 h2 hn hm w hq
  apply K149.L3.ok
  unfold K149.L3.wp
  refine xsIf_f (by simp; omega) ?_
  refine w.str ?_
  have := hq h w.part
  simpa [putL] using this
 | succ j ih =>
  intro t9 n bs a m c h h1 h2 hn hm w hq
  apply K149.L3.ok
  unfold K149.L3.wp
  refine xsIf_t (by simp; omega) ?_
  intro b1 hb1
  refine w.byte (by omega) hb1 ?_
  intro a' c' h' w'
  rw [show (8 : Int) = ((8 : Nat) : Int) from rfl, ishr_u64 (by omega), i64_in _ (by omega)]
  refine ih (t9 + 1) (n / 2 ^ 8) _ a' (m + 1) c' h' (by omega) (by omega) (by omega) (by omega) w' ?_
  intro h'' p
  have := hq h'' p
  simpa [putL] using this
def cnt (size : Int) : Nat := (min (max size 0) 8).toNat
theorem K149.c {n : Nat} {size : Int} {h : Heap} {Q : QT} (hn : n < 18446744073709551616) (hq : Q (.string ⟨(putL n (cnt size)).toArray⟩) h) : CT 149 #[.int .u64 n, .int .i64 size] h Q := by
 apply C.drop
 apply K149.ok
 unfold K149.wp
 rw [imin_eq, imax_eq]
 refine K149.L3.c (h0 := h) (by omega) (cnt size) 0 n [] none 0 0 h (by omega) ?_ hn (by omega) (Own.nil (Part.refl h)) ?_
 ·unfold cnt; omega
 ·intro h' p
  exact ⟨h, p, by simpa using hq⟩
theorem K174.L3.c {h0 : Heap} {Q : QT} {size : Int} : ∀ (j : Nat) (i : Int) (n : Nat) (bs : List UInt8) (a : Option Addr) (m c : Nat) (h : Heap),
  0 ≤ i → i + j = max (min size 8) i → n < 18446744073709551616 → m ≤ i → Own h0 h 5 1 a m c (byteVals bs) → (∀ h', Part h0 h' → Q (.string ⟨(bs ++ putL n j).toArray⟩) h') →
  K174.L3 n size a m c i h Q := by
 intro j
 induction j with
 | zero =>
  intro i n bs a m c h h1 h2 hn hm w hq
  apply K174.L3.ok
  unfold K174.L3.wp
  refine xsIf_intro (fun h3 => xsIf_intro (fun h4 => ?_) (fun h4 => ?_)) (fun h3 => ?_)
  ·simp at h3 h4; omega
  ·refine w.str ?_
   have := hq h w.part
   simpa [putL] using this
  ·refine w.str ?_
   have := hq h w.part
   simpa [putL] using this
 | succ j ih =>
  intro i n bs a m c h h1 h2 hn hm w hq
  apply K174.L3.ok
  unfold K174.L3.wp
  refine xsIf_t (by simp; omega) (xsIf_t (by simp; omega) ?_)
  apply K174.J5.ok
  intro b1 hb1
  have e : IntKind.u8.wrap (irem (n : Int) 256) = IntKind.u8.wrap (n : Int) := by
   rw [show (256 : Int) = ((256 : Nat) : Int) from rfl, irem_nat, u8_nat, u8_nat, Nat.mod_mod]
  rw [e]
  refine w.byte (by omega) hb1 ?_
  intro a' c' h' w'
  rw [show (256 : Int) = ((256 : Nat) : Int) from rfl, iquo_u64 _ hn, i64_in _ (by omega)]
  refine ih (i + 1) (n / 256) _ a' (m + 1) c' h' (by omega) (by omega) (by omega) (by omega) w' ?_
  intro h'' p
  have := hq h'' p
  simpa [putL] using this
theorem K174.c {n : Nat} {size : Int} {h : Heap} {Q : QT} (hn : n < 18446744073709551616) (hq : Q (.string ⟨(putL n (cnt size)).toArray⟩) h) : CT 174 #[.int .u64 n, .int .i64 size] h Q := by
 apply C.drop
 apply K174.ok
 unfold K174.wp
 refine K174.L3.c (h0 := h) (cnt size) 0 n [] none 0 0 h (by omega) ?_ hn (by omega) (Own.nil (Part.refl h)) ?_
 ·unfold cnt; omega
 ·intro h' p
  exact ⟨h, p, by simpa using hq⟩
def get8 (s : ByteArray) : Nat := getL (s.data.toList.take 8)
theorem bget_get {s : ByteArray} {i : Nat} (h : i < s.size) : bget s i = some (s.data.toList[i]'(by simpa using h)) := by
 unfold bget
 simp [h]
 rfl
theorem take_succ_get {l : List UInt8} {i : Nat} (h : i < l.length) : l.drop i = l[i] :: l.drop (i + 1) := List.drop_eq_getElem_cons h
theorem K153.L3.c {s : ByteArray} {h : Heap} {Q : QT} (hq : Q (.int .u64 (get8 s)) h) : ∀ (j : Nat) (n : Nat), j ≤ 8 → j ≤ s.size → n = getL ((s.data.toList.take 8).drop j) →
  K153.L3 s n ((j : Int) - 1) h Q := by
 intro j
 induction j with
 | zero =>
  intro n _ _ hn
  apply K153.L3.ok
  refine xsIf_f (by simp) ?_
  rw [hn]; simpa [get8] using hq
 | succ j ih =>
  intro n h8 hs hn
  apply K153.L3.ok
  refine xsIf_t (by simp) ?_
  have hjs : j < s.size := by omega
  have hl : s.data.toList.length = s.size := by simp
  have hj : ((↑(j + 1) : Int) - 1).toNat = j := by omega
  refine ⟨_, by omega, by rw [hj]; exact bget_get hjs, ?_⟩
  have hlt := getL_lt ((s.data.toList.take 8).drop (j + 1))
  rw [← hn] at hlt
  have hlen : ((s.data.toList.take 8).drop (j + 1)).length ≤ 7 - j := by simp; omega
  have hn2 : n < 256 ^ (7 - j) := Nat.lt_of_lt_of_le hlt (Nat.pow_le_pow_right (by omega) hlen)
  have hn3 : n < 72057594037927936 := Nat.lt_of_lt_of_le hn2 (Nat.pow_le_pow_right (by omega) (show 7 - j ≤ 7 by omega))
  generalize hb : s.data.toList[j]'(by omega) = b
  have hbl := b.toNat_lt
  rw [show (8 : Int) = ((8 : Nat) : Int) from rfl, ishl_u64 (by omega), u64_nat' (by omega), Nat.mod_eq_of_lt (by omega), ior_u64 (by omega) (by omega), i64_in _ (by omega)]
  rw [show (↑(j + 1) : Int) - 1 - 1 = (j : Int) - 1 by omega]
  refine ih _ (by omega) (by omega) ?_
  have hdr : (s.data.toList.take 8).drop j = b :: (s.data.toList.take 8).drop (j + 1) := by
   rw [List.drop_eq_getElem_cons (by simp; omega)]
   congr 1
   simp [← hb]
  rw [hdr]
  simp only [getL]
  rw [← hn, Nat.mul_comm n, ← Nat.two_pow_add_eq_or_of_lt (by omega : b.toNat < 2 ^ 8)]
  omega
theorem K153.c {s : ByteArray} {h : Heap} {Q : QT} (hs : s.size ≤ 9223372036854775807) (hq : Q (.int .u64 (get8 s)) h) : CT 153 #[.string s] h Q := by
 apply K153.ok
 unfold K153.wp
 rw [imin_eq, i64_in _ (by omega)]
 have := K153.L3.c hq (min s.size 8) 0 (by omega) (by omega) (by
  rw [List.drop_eq_nil_of_le]; rfl
  simp
  have : s.data.size = s.size := rfl
  omega)
 have e : ((min s.size 8 : Nat) : Int) - 1 = min (s.size : Int) 8 - 1 := by omega
 rw [e] at this
 exact this
theorem K115.L4.c {s : ByteArray} {h : Heap} {Q : QT} (hq : Q (.int .u64 (get8 s)) h) : ∀ (j i n : Nat), i + j = min s.size 8 → n = getL (s.data.toList.take i) →
  K115.L4 s n ((256 ^ i % 18446744073709551616 : Nat) : Int) i h Q := by
 intro j
 induction j with
 | zero =>
  intro i n hi hn
  apply K115.L4.ok
  have hfin : Q (.int .u64 n) h := by
   have : s.data.toList.take i = s.data.toList.take 8 := by
    have hl : s.data.toList.length = s.size := by simp
    by_cases h8 : s.size ≤ 8
    ·rw [List.take_of_length_le (by omega), List.take_of_length_le (by omega)]
    ·rw [show i = 8 by omega]
   rw [hn, this]; exact hq
  refine xsIf_intro (fun h3 => xsIf_intro (fun h4 => ?_) (fun h4 => hfin)) (fun h3 => hfin)
  simp at h3 h4; omega
 | succ j ih =>
  intro i n hi hn
  apply K115.L4.ok
  refine xsIf_t (by simp; omega) (xsIf_t (by simp; omega) ?_)
  apply K115.J6.ok
  have hl : s.data.toList.length = s.size := by simp
  refine ⟨_, by omega, by rw [Int.toNat_natCast]; exact bget_get (by omega), ?_⟩
  generalize hb : s.data.toList[i]'(by omega) = b
  have hbl := b.toNat_lt
  have hi8 : i < 8 := by omega
  have hp : 256 ^ i ≤ 256 ^ 7 := Nat.pow_le_pow_right (by omega) (by omega)
  have hlt := getL_lt (s.data.toList.take i)
  have htl : (s.data.toList.take i).length = i := by simp; omega
  rw [← hn, htl] at hlt
  rw [Nat.mod_eq_of_lt (by omega : 256 ^ i < 18446744073709551616)]
  have hmul : 256 ^ i * b.toNat ≤ 256 ^ i * 255 := Nat.mul_le_mul_left _ (by omega)
  rw [u64_nat' (by omega : b.toNat < _), ← Int.natCast_mul, u64_nat' (by omega), ← Int.natCast_add, u64_nat' (by omega), show (256 : Int) = ((256 : Nat) : Int) from rfl, ← Int.natCast_mul, u64_nat, i64_in _ (by omega)]
  have := ih (i + 1) (n + 256 ^ i * b.toNat) (by omega) (by
   rw [List.take_add_one, getL_append, htl, ← hn]
   have : s.data.toList[i]? = some b := by rw [← hb]; exact List.getElem?_eq_getElem _
   rw [this]
   simp [getL])
  rw [Nat.pow_succ] at this
  exact this
theorem K115.c {s : ByteArray} {h : Heap} {Q : QT} (hq : Q (.int .u64 (get8 s)) h) : CT 115 #[.string s] h Q := by
 apply K115.ok
 unfold K115.wp
 exact K115.L4.c hq (min s.size 8) 0 0 (by omega) rfl
end Go.Gb
namespace Go.Gb
open Go.Proofs IntWalk
def maskN (at0 width : Nat) : Nat := (2 ^ width - 1) * 2 ^ at0
def mayP (at0 width : Int) : Prop := 0 ≤ at0 ∧ at0 < 64 ∧ 1 ≤ width ∧ width ≤ 64 - at0
instance (a b : Int) : Decidable (mayP a b) := by unfold mayP; infer_instance
theorem maskN_test (a n i : Nat) : (maskN a n).testBit i = (decide (a ≤ i) && decide (i < a + n)) := by
 unfold maskN
 rw [Nat.testBit_mul_two_pow, Nat.testBit_two_pow_sub_one]
 by_cases h : a ≤ i <;> simp [h]
 omega
theorem maskN_pos {a n : Nat} (h : 1 ≤ n) : maskN a n ≠ 0 := by
 unfold maskN
 have : 2 ^ 1 ≤ 2 ^ n := Nat.pow_le_pow_right (by omega) h
 have h2 : 0 < 2 ^ a := Nat.two_pow_pos a
 exact Nat.mul_ne_zero (by omega) (by omega)
theorem maskN_lt {a n : Nat} (h : a + n ≤ 64) : maskN a n < 18446744073709551616 := by
 unfold maskN
 have h1 : 2 ^ n * 2 ^ a ≤ 2 ^ 64 := by rw [← Nat.pow_add]; exact Nat.pow_le_pow_right (by omega) (by omega)
 have h2 : 0 < 2 ^ a := Nat.two_pow_pos a
 rw [Nat.sub_mul]
 omega
theorem not_may {a n : Int} (h : ¬ (0 ≤ a ∧ a < 64 ∧ 1 ≤ n ∧ n ≤ 64 - a)) : ¬ mayP a n := h
theorem K209.c {at0 width : Int} {h : Heap} {Q : QT} (hq : Q (.int .u64 (if mayP at0 width then (maskN at0.toNat width.toNat : Nat) else 0 : Int)) h) : CT 209 #[.int .i64 at0, .int .i64 width] h Q := by
 apply K209.ok
 unfold K209.wp
 refine xsIf_intro (fun h1 => ?_) (fun h1 => xsIf_intro (fun h2 => ?_) (fun h2 => xsIf_intro (fun h3 => ?_) (fun h3 => ?_)))
 ·simp at h1
  rw [if_neg (not_may (by omega))] at hq; exact hq
 ·simp at h1 h2
  rw [if_neg (not_may (by omega))] at hq; exact hq
 ·simp at h1 h2 h3
  rw [if_neg (not_may (by omega))] at hq; exact hq
 ·simp at h1 h2 h3
  rw [i64_in (64 - at0) (by omega)]
  refine xsIf_intro (fun h4 => ?_) (fun h4 => ?_) <;> simp at h4
  ·rw [if_neg (not_may (by omega))] at hq; exact hq
  ·rw [if_pos (show mayP at0 width from ⟨by omega, by omega, by omega, by omega⟩)] at hq
   rw [i64_in (64 - width) (by omega)]
   refine ⟨by omega, by omega, ?_⟩
   obtain ⟨a, rfl⟩ : ∃ a : Nat, at0 = a := ⟨at0.toNat, by omega⟩
   obtain ⟨n, rfl⟩ : ∃ n : Nat, width = n := ⟨width.toNat, by omega⟩
   rw [show (64 : Int) - (n : Int) = ((64 - n : Nat) : Int) by omega, show (18446744073709551615 : Int) = ((18446744073709551615 : Nat) : Int) from rfl, ishr_u64 (by omega), ishl_u64 (by omega)]
   have e1 : 18446744073709551615 / 2 ^ (64 - n) = 2 ^ n - 1 := by
    have : (18446744073709551615 : Nat) = 2 ^ (64 - n) * 2 ^ n - 1 := by rw [← Nat.pow_add, show 64 - n + n = 64 by omega]
    rw [this]
    have hp : 0 < 2 ^ n := Nat.two_pow_pos n
    have hp2 : 0 < 2 ^ (64 - n) := Nat.two_pow_pos _
    have : 2 ^ (64 - n) * 2 ^ n - 1 = (2 ^ (64 - n) - 1) + 2 ^ (64 - n) * (2 ^ n - 1) := by
     rw [Nat.mul_sub, Nat.mul_one]
     have : 2 ^ (64 - n) ≤ 2 ^ (64 - n) * 2 ^ n := Nat.le_mul_of_pos_right _ hp
     omega
    rw [this, Nat.add_mul_div_left _ _ hp2, Nat.div_eq_of_lt (by omega)]
    omega
   have hml := maskN_lt (a := a) (n := n) (by omega)
   unfold maskN at hml
   rw [e1, Nat.mod_eq_of_lt hml]
   simpa [maskN] using hq
def fieldN (w a n : Nat) : Nat := w / 2 ^ a % 2 ^ n
def withN (w a n v : Nat) : Nat := (w &&& (18446744073709551615 - maskN a n)) ||| ((v * 2 ^ a % 18446744073709551616) &&& maskN a n)
theorem fieldN_test (w a n i : Nat) : (fieldN w a n).testBit i = (decide (i < n) && w.testBit (a + i)) := by
 unfold fieldN
 rw [Nat.testBit_mod_two_pow, Nat.testBit_div_two_pow, Nat.add_comm]
theorem field_and (w a n : Nat) : (w &&& maskN a n) / 2 ^ a = fieldN w a n := by
 apply Nat.eq_of_testBit_eq
 intro i
 rw [Nat.testBit_div_two_pow, Nat.testBit_and, maskN_test, fieldN_test, Nat.add_comm i a]
 simp
 by_cases h : i < n <;> simp [h]
theorem withN_test {w a n v i : Nat} (h : a + n ≤ 64) (hw : w < 18446744073709551616) :
  (withN w a n v).testBit i = if a ≤ i ∧ i < a + n then v.testBit (i - a) else w.testBit i := by
 unfold withN
 have hm := maskN_lt h
 have e : 18446744073709551615 - maskN a n = 2 ^ 64 - (maskN a n + 1) := by omega
 rw [Nat.testBit_or, Nat.testBit_and, Nat.testBit_and, e, Nat.testBit_two_pow_sub_succ hm, maskN_test]
 rw [show (18446744073709551616 : Nat) = 2 ^ 64 from rfl, Nat.testBit_mod_two_pow, Nat.testBit_mul_two_pow]
 by_cases h1 : a ≤ i ∧ i < a + n
 ·rw [if_pos h1]
  have : i < 64 := by omega
  simp [h1.1, h1.2, this]
 ·rw [if_neg h1]
  have : (decide (a ≤ i) && decide (i < a + n)) = false := by simp; omega
  rw [this]
  by_cases h64 : i < 64
  ·simp [h64]
  ·have : w.testBit i = false := Nat.testBit_lt_two_pow (Nat.lt_of_lt_of_le hw (Nat.pow_le_pow_right (n := 2) (by omega) (by omega : 64 ≤ i)))
   simp [this]
def fieldV (w : Nat) (at0 width : Int) : Nat := if mayP at0 width then fieldN w at0.toNat width.toNat else 0
def withV (w : Nat) (at0 width : Int) (v : Nat) : Nat := if mayP at0 width then withN w at0.toNat width.toNat v else w
theorem K157.c {w : Nat} {at0 width : Int} {h : Heap} {Q : QT} (hw : w < 18446744073709551616) (hq : Q (.int .u64 (fieldV w at0 width)) h) : CT 157 #[.int .u64 w, .int .i64 at0, .int .i64 width] h Q := by
 apply K157.ok
 unfold K157.wp
 refine K209.c ⟨_, rfl, ?_⟩
 unfold fieldV at hq
 split
 ·rename_i hm
  rw [if_pos hm] at hq
  have hm' := hm
  unfold mayP at hm'
  have h1 : maskN at0.toNat width.toNat ≠ 0 := maskN_pos (by omega)
  refine xsIf_f (by simp; exact h1) ⟨hm.1, ?_⟩
  obtain ⟨a, rfl⟩ : ∃ a : Nat, at0 = a := ⟨at0.toNat, by omega⟩
  rw [iand_u64 hw (maskN_lt (by omega)), ishr_u64 (by omega)]
  simp only [Int.toNat_natCast] at hq ⊢
  rw [field_and]
  exact hq
 ·rename_i hm
  rw [if_neg hm] at hq
  exact xsIf_t (by simp) hq
theorem K189.c {w v : Nat} {at0 width : Int} {h : Heap} {Q : QT} (hw : w < 18446744073709551616) (hv : v < 18446744073709551616) (hq : Q (.int .u64 (withV w at0 width v)) h) :
  CT 189 #[.int .u64 w, .int .i64 at0, .int .i64 width, .int .u64 v] h Q := by
 apply K189.ok
 unfold K189.wp
 refine K209.c ⟨_, rfl, ?_⟩
 unfold withV at hq
 split
 ·rename_i hm
  rw [if_pos hm] at hq
  have hm' := hm
  unfold mayP at hm'
  have h1 : maskN at0.toNat width.toNat ≠ 0 := maskN_pos (by omega)
  refine xsIf_f (by simp; exact h1) ⟨hm.1, ?_⟩
  obtain ⟨a, rfl⟩ : ∃ a : Nat, at0 = a := ⟨at0.toNat, by omega⟩
  have hml := maskN_lt (a := (a : Int).toNat) (n := width.toNat) (by omega)
  rw [iandNot_u64 hw hml, ishl_u64 (by omega), iand_u64 (Nat.mod_lt _ (by omega)) hml, ior_u64 (Nat.lt_of_le_of_lt Nat.and_le_left hw) (Nat.lt_of_le_of_lt Nat.and_le_right hml)]
  exact hq
 ·rename_i hm
  rw [if_neg hm] at hq
  exact xsIf_t (by simp) hq
theorem K250.c {at0 width : Int} {h : Heap} {Q : QT} (hq : Q (.bool (decide (mayP at0 width))) h) : CT 250 #[.int .i64 at0, .int .i64 width] h Q := by
 have hq' : ∀ b, (b = true ↔ mayP at0 width) → Q (.bool b) h := fun b hb => by
  rw [show b = decide (mayP at0 width) by rw [Bool.eq_iff_iff]; simpa using hb]; exact hq
 apply K250.ok
 unfold K250.wp
 refine xsIf_intro (fun h1 => xsIf_intro (fun h2 => xsIf_intro (fun h3 => ?_) (fun h3 => ?_)) (fun h2 => ?_)) (fun h1 => ?_)
 ·simp at h1 h2 h3
  rw [i64_in _ (by omega)]; apply hq'; unfold mayP; simp; omega
 ·simp at h1 h2 h3
  apply hq'; unfold mayP; simp; omega
 ·simp at h1 h2
  apply hq'; unfold mayP; simp; omega
 ·simp at h1
  apply hq'; unfold mayP; simp; omega
theorem K251.L2.c {h : Heap} {Q : QT} {i : Nat} (hi : i < 64) : ∀ (j : Nat) (w k : Nat), w < 18446744073709551616 → k + j = i → Q (.int .u64 (w / 2 ^ j % 2 : Nat)) h → K251.L2 w i k h Q := by
 intro j
 induction j with
 | zero =>
  intro w k hw hk hq
  apply K251.L2.ok
  refine xsIf_f (by simp; omega) ?_
  rw [show (2 : Int) = ((2 : Nat) : Int) from rfl, irem_nat]
  simpa using hq
 | succ j ih =>
  intro w k hw hk hq
  apply K251.L2.ok
  refine xsIf_t (by simp; omega) ?_
  rw [show (2 : Int) = ((2 : Nat) : Int) from rfl, iquo_u64 _ hw, i64_in _ (by omega)]
  refine ih (w / 2) (k + 1) (by omega) (by omega) ?_
  rw [Nat.div_div_eq_div_mul, Nat.mul_comm, ← Nat.pow_succ]
  exact hq
theorem K251.c {w : Nat} {i : Nat} {h : Heap} {Q : QT} (hw : w < 18446744073709551616) (hi : i < 64) (hq : Q (.int .u64 (w / 2 ^ i % 2 : Nat)) h) : CT 251 #[.int .u64 w, .int .i64 i] h Q := by
 apply K251.ok
 exact K251.L2.c hi i w 0 hw (by omega) hq
theorem field_step (w b i : Nat) : 2 * (w / 2 ^ (b + 1) % 2 ^ i) + w / 2 ^ b % 2 = w / 2 ^ b % 2 ^ (i + 1) := by
 rw [Nat.pow_succ, Nat.pow_succ, Nat.mul_comm (2 ^ i) 2, Nat.mod_mul, ← Nat.div_div_eq_div_mul]
 omega
theorem K224.L4.c {h : Heap} {Q : QT} {w a n : Nat} (hw : w < 18446744073709551616) (hm : a + n ≤ 64) (hq : Q (.int .u64 (fieldN w a n : Nat)) h) : ∀ (j i : Nat), i + j = n →
  K224.L4 w a n true (w / 2 ^ (a + j) % 2 ^ i : Nat) i h Q := by
 intro j
 induction j with
 | zero =>
  intro i hi
  apply K224.L4.ok
  refine xsIf_t rfl (xsIf_f (by simp; omega) ?_)
  have : i = n := by omega
  subst this
  exact hq
 | succ j ih =>
  intro i hi
  apply K224.L4.ok
  refine xsIf_t rfl (xsIf_t (by simp; omega) ?_)
  apply K224.J6.ok
  unfold K224.J6.wp
  rw [i64_in ((a : Int) + n) (by omega), i64_in ((a : Int) + n - 1) (by omega), i64_in _ (by omega), show (a : Int) + n - 1 - i = ((a + j : Nat) : Int) by omega]
  refine K251.c hw (by omega) ⟨_, rfl, ?_⟩
  have h1 : w / 2 ^ (a + (j + 1)) % 2 ^ i < 2 ^ 63 := Nat.lt_of_lt_of_le (Nat.mod_lt _ (Nat.two_pow_pos i)) (Nat.pow_le_pow_right (n := 2) (by omega) (by omega))
  have h2 : w / 2 ^ (a + j) % 2 < 2 := Nat.mod_lt _ (by omega)
  rw [show (2 : Int) = ((2 : Nat) : Int) from rfl, ← Int.natCast_mul, u64_nat' (by omega), ← Int.natCast_add, u64_nat' (by omega), i64_in _ (by omega)]
  have := ih (i + 1) (by omega)
  rw [← field_step w (a + j) i] at this
  exact this
theorem K224.c {w : Nat} {at0 width : Int} {h : Heap} {Q : QT} (hw : w < 18446744073709551616) (hq : Q (.int .u64 (fieldV w at0 width)) h) : CT 224 #[.int .u64 w, .int .i64 at0, .int .i64 width] h Q := by
 apply K224.ok
 unfold K224.wp
 refine K250.c ⟨_, rfl, ?_⟩
 unfold fieldV at hq
 by_cases hm : mayP at0 width
 ·rw [if_pos hm] at hq
  rw [decide_eq_true hm]
  unfold mayP at hm
  obtain ⟨a, rfl⟩ : ∃ a : Nat, at0 = a := ⟨at0.toNat, by omega⟩
  obtain ⟨n, rfl⟩ : ∃ n : Nat, width = n := ⟨width.toNat, by omega⟩
  simp only [Int.toNat_natCast] at hq
  have := K224.L4.c hw (by omega) hq n 0 (by omega)
  simpa [Nat.mod_one] using this
 ·rw [if_neg hm] at hq
  rw [decide_eq_false hm]
  apply K224.L4.ok
  exact xsIf_f rfl hq
end Go.Gb
namespace Go.Gb
open Go.Proofs IntWalk
end Go.Gb
namespace Go.Gb
open Go.Proofs IntWalk
def chunk (l : List UInt8) (i : Nat) : List UInt8 := (l.drop (8 * i)).take 8
def wordAt (s : ByteArray) (i : Nat) : Nat := getL (chunk s.data.toList i)
def textL (n0 n1 n2 n3 n4 n5 n6 n7 : Nat) : List UInt8 := putL n0 8 ++ putL n1 8 ++ putL n2 8 ++ putL n3 8 ++ putL n4 8 ++ putL n5 8 ++ putL n6 8 ++ putL n7 8
theorem get8_sext {s : ByteArray} {i : Nat} (hs : s.size = 64) : get8 (sext s ((8 * i : Nat) : Int) (s.size : Int)) = wordAt s i := by
 unfold get8 wordAt chunk sext
 congr 1
 rw [Int.toNat_natCast, Int.toNat_natCast]
 rw [ByteArray.data_extract]
 have e : (s.data.extract (8 * i) s.size).toList = s.data.toList.drop (8 * i) := by
  rw [Array.toList_extract]
  have : s.size = s.data.toList.length := by simp
  rw [this, List.extract_eq_take_drop, ← List.drop_take, List.take_length]
 rw [e]
theorem sext_size {s : ByteArray} {l : Int} : (sext s l (s.size : Int)).size ≤ s.size := by
 unfold sext
 rw [ByteArray.size_extract]
 omega
theorem wordAt_lt (s : ByteArray) (i : Nat) : wordAt s i < 18446744073709551616 := by
 unfold wordAt
 have h1 := getL_lt (chunk s.data.toList i)
 have h2 : (chunk s.data.toList i).length ≤ 8 := by unfold chunk; simp; omega
 exact Nat.lt_of_lt_of_le h1 (Nat.pow_le_pow_right (n := 256) (by omega) h2)
theorem words_step {s : ByteArray} {h : Heap} {Q : QT} {k : Nat} {w : List Value} {t0 t1 t2 t3 t4 t5 t6 t7 : Int} (hk : k < 8) (hs : s.size = 64) (hw : w.length = 8)
  (hq : K94.L5 s ((k + 1 : Nat) : Int) t0 t1 t2 t3 t4 t5 t6 t7 (lput w k [.int .u64 (wordAt s k)]) h Q) : K94.L5 s (k : Int) t0 t1 t2 t3 t4 t5 t6 t7 w h Q := by
 apply K94.L5.ok
 unfold K94.L5.wp
 refine xsIf_t (by simp; omega) ?_
 rw [show (8 : Int) * (k : Int) = ((8 * k : Nat) : Int) by omega, i64_in ((8 * k : Nat) : Int) (by omega)]
 refine ⟨by omega, ?_⟩
 refine K153.c (Nat.le_trans sext_size (by omega)) ⟨_, rfl, by omega, by omega, ?_⟩
 rw [get8_sext hs, i64_in _ (by omega), Int.toNat_natCast, Nat.zero_add, Nat.mul_one]
 exact hq
theorem K94.c {s : ByteArray} {h : Heap} {Q : QT}
  (hq : s.size = 64 → Q (.tuple #[.agg #[.int .u64 (wordAt s 0), .int .u64 (wordAt s 1), .int .u64 (wordAt s 2), .int .u64 (wordAt s 3), .int .u64 (wordAt s 4), .int .u64 (wordAt s 5), .int .u64 (wordAt s 6), .int .u64 (wordAt s 7)], .int .i64 0]) h)
  (hn : s.size ≠ 64 → Q (.tuple #[.agg #[.int .u64 0, .int .u64 0, .int .u64 0, .int .u64 0, .int .u64 0, .int .u64 0, .int .u64 0, .int .u64 0], .int .i64 2]) h) : CT 94 #[.string s] h Q := by
 apply K94.ok
 unfold K94.wp
 refine xsIf_intro (fun h1 => ?_) (fun h1 => ?_)
 ·have h1' : s.size ≠ 64 := by simp at h1; omega
  exact ⟨by decide, _, rfl, _, rfl, _, rfl, _, rfl, _, rfl, _, rfl, _, rfl, _, rfl, hn h1'⟩
 ·have hs : s.size = 64 := by simp at h1; omega
  refine words_step (k := 0) (by omega) hs rfl ?_
  refine words_step (k := 1) (by omega) hs rfl ?_
  refine words_step (k := 2) (by omega) hs rfl ?_
  refine words_step (k := 3) (by omega) hs rfl ?_
  refine words_step (k := 4) (by omega) hs rfl ?_
  refine words_step (k := 5) (by omega) hs rfl ?_
  refine words_step (k := 6) (by omega) hs rfl ?_
  refine words_step (k := 7) (by omega) hs rfl ?_
  apply K94.L5.ok
  refine xsIf_f (by decide) ⟨Nat.le_refl 8, _, rfl, _, rfl, _, rfl, _, rfl, _, rfl, _, rfl, _, rfl, _, rfl, hq hs⟩
theorem bytes_append (a b : List UInt8) : (⟨a.toArray⟩ : ByteArray) ++ ⟨b.toArray⟩ = ⟨(a ++ b).toArray⟩ := by
 apply ByteArray.ext
 simp
theorem bytes_size (a : List UInt8) : (⟨a.toArray⟩ : ByteArray).size = a.length := by
 show a.toArray.size = _
 simp
theorem text_step {h : Heap} {Q : QT} {k n : Nat} {acc : List UInt8} {t0 t1 t2 t3 t4 t5 t6 t7 : Int} (hk : k < 8) (hl : acc.length = 8 * k) (hn : n < 18446744073709551616)
  (hg : lget [.int .u64 t0, .int .u64 t1, .int .u64 t2, .int .u64 t3, .int .u64 t4, .int .u64 t5, .int .u64 t6, .int .u64 t7] k = some (.int .u64 n))
  (hq : K152.L3 ⟨(acc ++ putL n 8).toArray⟩ t0 t1 t2 t3 t4 t5 t6 t7 ((k + 1 : Nat) : Int) h Q) : K152.L3 ⟨acc.toArray⟩ t0 t1 t2 t3 t4 t5 t6 t7 (k : Int) h Q := by
 apply K152.L3.ok
 unfold K152.L3.wp
 refine xsIf_t (by simp; omega) ⟨by omega, n, ?_, ?_⟩
 ·rw [Int.toNat_natCast, Nat.mul_one]; exact hg
 refine K149.c hn ⟨_, rfl, ?_, ?_⟩
 ·rw [bytes_size, bytes_size, putL_length, show cnt 8 = 8 by decide]; omega
 ·rw [bytes_append, show cnt 8 = 8 by decide, i64_in _ (by omega)]
  exact hq
theorem K152.c {n0 n1 n2 n3 n4 n5 n6 n7 : Nat} {h : Heap} {Q : QT} (h0 : n0 < 18446744073709551616) (h1 : n1 < 18446744073709551616) (h2 : n2 < 18446744073709551616) (h3 : n3 < 18446744073709551616)
  (h4 : n4 < 18446744073709551616) (h5 : n5 < 18446744073709551616) (h6 : n6 < 18446744073709551616) (h7 : n7 < 18446744073709551616)
  (hq : Q (.string ⟨(textL n0 n1 n2 n3 n4 n5 n6 n7).toArray⟩) h) :
  CT 152 #[.agg #[.int .u64 n0, .int .u64 n1, .int .u64 n2, .int .u64 n3, .int .u64 n4, .int .u64 n5, .int .u64 n6, .int .u64 n7]] h Q := by
 apply K152.ok
 unfold K152.wp
 refine text_step (acc := []) (k := 0) (by omega) rfl h0 rfl ?_
 refine text_step (k := 1) (by omega) (by simp [putL_length]) h1 rfl ?_
 refine text_step (k := 2) (by omega) (by simp [putL_length]) h2 rfl ?_
 refine text_step (k := 3) (by omega) (by simp [putL_length]) h3 rfl ?_
 refine text_step (k := 4) (by omega) (by simp [putL_length]) h4 rfl ?_
 refine text_step (k := 5) (by omega) (by simp [putL_length]) h5 rfl ?_
 refine text_step (k := 6) (by omega) (by simp [putL_length]) h6 rfl ?_
 refine text_step (k := 7) (by omega) (by simp [putL_length]) h7 rfl ?_
 apply K152.L3.ok
 refine xsIf_f (by decide) ?_
 exact hq
theorem chunks (l : List UInt8) (h : l.length = 64) : l = chunk l 0 ++ chunk l 1 ++ chunk l 2 ++ chunk l 3 ++ chunk l 4 ++ chunk l 5 ++ chunk l 6 ++ chunk l 7 := by
 unfold chunk
 apply List.ext_getElem?
 intro i
 simp only [List.getElem?_append, List.getElem?_take, List.getElem?_drop, List.length_append, List.length_take, List.length_drop, h]
 simp
 (repeat' split) <;> first | rfl | (congr 1; omega) | (rw [List.getElem?_eq_none]; omega) | omega
theorem put_word (s : ByteArray) (hs : s.size = 64) (i : Nat) (hi : i < 8) : putL (wordAt s i) 8 = chunk s.data.toList i := by
 unfold wordAt
 have hl : (chunk s.data.toList i).length = 8 := by
  unfold chunk
  have : s.data.toList.length = s.size := by simp
  simp; omega
 have := putL_get (chunk s.data.toList i)
 rw [hl] at this
 exact this
theorem text_words (s : ByteArray) (hs : s.size = 64) : (⟨(textL (wordAt s 0) (wordAt s 1) (wordAt s 2) (wordAt s 3) (wordAt s 4) (wordAt s 5) (wordAt s 6) (wordAt s 7)).toArray⟩ : ByteArray) = s := by
  unfold textL
  rw [put_word s hs 0 (by omega), put_word s hs 1 (by omega), put_word s hs 2 (by omega), put_word s hs 3 (by omega), put_word s hs 4 (by omega), put_word s hs 5 (by omega), put_word s hs 6 (by omega), put_word s hs 7 (by omega)]
  rw [← chunks s.data.toList (by have : s.data.toList.length = s.size := by simp
                                 omega)]
end Go.Gb
namespace Go.Gb
open Go.Proofs IntWalk
theorem and_bit (r k : Nat) : (r &&& 2 ^ k ≠ 0) ↔ r.testBit k = true := by
 constructor
 ·intro h
  cases hb : r.testBit k with
  | true => rfl
  | false =>
   refine absurd ?_ h
   apply Nat.eq_of_testBit_eq
   intro i
   rw [Nat.testBit_and, Nat.testBit_two_pow, Nat.zero_testBit]
   by_cases e : k = i
   ·subst e; rw [hb]; rfl
   ·simp [e]
 ·intro h e
  have : (r &&& 2 ^ k).testBit k = true := by rw [Nat.testBit_and, Nat.testBit_two_pow, h]; simp
  rw [e, Nat.zero_testBit] at this
  cases this
theorem K255.L7.c {s : ByteArray} {t7 t8 : Int} {h : Heap} {Q : QT} : ∀ (j k r : Nat), k + j = 8 → r < 65536 → K255.L3 s (iter c16 j r : Nat) t7 (IntKind.i64.wrap (t8 + 1)) h Q → K255.L7 s r t7 t8 k h Q := by
 intro j
 induction j with
 | zero =>
  intro k r hk hr hq
  apply K255.L7.ok
  exact xsIf_f (by simp; omega) hq
 | succ j ih =>
  intro k r hk hr hq
  have hn := ih (k + 1) (c16 r) (by omega) (c16_lin.lt r hr) hq
  apply K255.L7.ok
  unfold K255.L7.wp
  rw [show (32768 : Int) = ((32768 : Nat) : Int) from rfl, iandU rfl (show r < 2 ^ IntKind.u16.bits from hr) (show 32768 < 2 ^ 16 by omega), show (1 : Int) = ((1 : Nat) : Int) from rfl, ishlU rfl (show 1 ≤ IntKind.u16.bits by decide),
   show (4129 : Int) = ((4129 : Nat) : Int) from rfl, ixorU rfl (Nat.mod_lt _ (Nat.two_pow_pos _)) (show 4129 < 2 ^ 16 by omega), show ((k : Int) + ((1 : Nat) : Int)) = ((k + 1 : Nat) : Int) by omega, i64_in _ (by omega)]
  have hb := and_bit r 15
  have e2 : r * 2 ^ 1 % 2 ^ IntKind.u16.bits = 2 * r % 65536 := by rw [show IntKind.u16.bits = 16 from rfl]; omega
  rw [e2]
  unfold c16 at hn
  refine xsIf_t (by simp; omega) (xsIf_intro (fun h1 => ?_) (fun h1 => ?_))
  ·have h1 : r.testBit 15 = true := hb.1 (by simpa using h1)
   rw [h1] at hn; exact hn
  ·have h1 : r.testBit 15 = false := by
    cases hx : r.testBit 15 with
    | false => rfl
    | true => have h3 := hb.2 hx; simp at h1; exact absurd (by exact_mod_cast h1) h3
   rw [h1] at hn
   simpa using hn
theorem K255.L3.c {s : ByteArray} {h : Heap} {Q : QT} (hs : s.size ≤ 9223372036854775807) : ∀ (j i r : Nat), i + j = s.size → r < 65536 → Q (.int .u16 (chk (iter c16 8) (fun b => b * 256) r (s.data.toList.drop i) : Nat)) h → K255.L3 s r s.size i h Q := by
 intro j
 induction j with
 | zero =>
  intro i r hi hr hq
  apply K255.L3.ok
  refine xsIf_f (by simp; omega) ?_
  rw [List.drop_eq_nil_of_le (by simp; omega)] at hq
  exact hq
 | succ j ih =>
  intro i r hi hr hq
  apply K255.L3.ok
  have hlt : i < s.data.toList.length := by simp; omega
  refine xsIf_t (by simp; omega) ⟨_, by omega, by rw [Int.toNat_natCast]; exact bget_get (by omega), ?_⟩
  have hb := byte_lt s.data.toList[i]
  rw [take_succ_get hlt, chk_cons] at hq
  rw [u16_nat' (by omega), show (8 : Int) = ((8 : Nat) : Int) from rfl, ishlU rfl (show 8 ≤ IntKind.u16.bits by decide), ixorU rfl (show r < 2 ^ IntKind.u16.bits from hr) (Nat.mod_lt _ (Nat.two_pow_pos _))]
  have e2 : s.data.toList[i].toNat * 2 ^ 8 % 2 ^ IntKind.u16.bits = s.data.toList[i].toNat * 256 := by rw [show IntKind.u16.bits = 16 from rfl]; omega
  rw [e2]
  have hx : r ^^^ s.data.toList[i].toNat * 256 < 65536 := xor_lt (w := 16) hr (by omega)
  refine K255.L7.c 8 0 _ (by omega) hx ?_
  rw [show ((i : Int) + 1) = ((i + 1 : Nat) : Int) by omega, i64_in _ (by omega)]
  exact ih (i + 1) _ (by omega) ((c16_lin.iter 8).lt _ hx) hq
theorem K255.c {s : ByteArray} {h : Heap} {Q : QT} (hs : s.size ≤ 9223372036854775807) (hq : Q (.int .u16 (sum16 s.data.toList)) h) : CT 255 #[.string s] h Q := by
 apply K255.ok
 exact K255.L3.c hs s.size 0 65535 (by omega) (by omega) hq
theorem K150.L7.c {s : ByteArray} {t7 t8 : Int} {h : Heap} {Q : QT} : ∀ (j k r : Nat), k + j = 8 → r < 4294967296 → K150.L3 s (iter c32 j r : Nat) t7 (IntKind.i64.wrap (t8 + 1)) h Q → K150.L7 s r t7 t8 k h Q := by
 intro j
 induction j with
 | zero =>
  intro k r hk hr hq
  apply K150.L7.ok
  exact xsIf_f (by simp; omega) hq
 | succ j ih =>
  intro k r hk hr hq
  have hn := ih (k + 1) (c32 r) (by omega) (c32_lin.lt r hr) hq
  apply K150.L7.ok
  unfold K150.L7.wp
  have hd : r / 2 < 2 ^ 32 := by omega
  rw [show (1 : Int) = ((1 : Nat) : Int) from rfl, iandU rfl (show r < 2 ^ IntKind.u32.bits from hr) (show 1 < 2 ^ 32 by omega), ishrU (show 1 ≤ IntKind.u32.bits by decide), show r / 2 ^ 1 = r / 2 from rfl,
   show (2197175160 : Int) = ((2197175160 : Nat) : Int) from rfl, ixorU rfl hd (show 2197175160 < 2 ^ 32 by omega), show ((k : Int) + ((1 : Nat) : Int)) = ((k + 1 : Nat) : Int) by omega, i64_in _ (by omega)]
  have hb := and_bit r 0
  unfold c32 at hn
  refine xsIf_t (by simp; omega) (xsIf_intro (fun h1 => ?_) (fun h1 => ?_))
  ·have h1 : r.testBit 0 = true := hb.1 (by intro e; rw [show (1 : Nat) = 2 ^ 0 from rfl, e] at h1; simp at h1)
   rw [h1] at hn; exact hn
  ·have h1 : r.testBit 0 = false := by
    cases hx : r.testBit 0 with
    | false => rfl
    | true => have h3 := hb.2 hx; simp at h1; simp at h3; omega
   rw [h1] at hn
   simpa using hn
theorem K150.L3.c {s : ByteArray} {h : Heap} {Q : QT} (hs : s.size ≤ 9223372036854775807) : ∀ (j i r : Nat), i + j = s.size → r < 4294967296 → Q (.int .u32 (chk (iter c32 8) (fun b => b) r (s.data.toList.drop i) ^^^ 4294967295 : Nat)) h → K150.L3 s r s.size i h Q := by
 intro j
 induction j with
 | zero =>
  intro i r hi hr hq
  apply K150.L3.ok
  refine xsIf_f (by simp; omega) ?_
  rw [List.drop_eq_nil_of_le (by simp; omega)] at hq
  rw [inotU (k := .u32) (m := 4294967295) rfl rfl (show 4294967295 < 2 ^ 32 by omega) (show r < 2 ^ IntKind.u32.bits from hr)]
  exact hq
 | succ j ih =>
  intro i r hi hr hq
  apply K150.L3.ok
  have hlt : i < s.data.toList.length := by simp; omega
  refine xsIf_t (by simp; omega) ⟨_, by omega, by rw [Int.toNat_natCast]; exact bget_get (by omega), ?_⟩
  have hb := byte_lt s.data.toList[i]
  rw [take_succ_get hlt, chk_cons] at hq
  rw [u32_nat' (by omega), ixorU rfl (show r < 2 ^ IntKind.u32.bits from hr) (show s.data.toList[i].toNat < 2 ^ 32 by omega)]
  have hx : r ^^^ s.data.toList[i].toNat < 4294967296 := xor_lt (w := 32) hr (by omega)
  refine K150.L7.c 8 0 _ (by omega) hx ?_
  rw [show ((i : Int) + 1) = ((i + 1 : Nat) : Int) by omega, i64_in _ (by omega)]
  exact ih (i + 1) _ (by omega) ((c32_lin.iter 8).lt _ hx) hq
theorem K150.c {s : ByteArray} {h : Heap} {Q : QT} (hs : s.size ≤ 9223372036854775807) (hq : Q (.int .u32 (sum32 s.data.toList)) h) : CT 150 #[.string s] h Q := by
 apply K150.ok
 exact K150.L3.c hs s.size 0 4294967295 (by omega) (by omega) hq
def checkN (n : Nat) : Nat := 65535 - sum16 (putL n 6)
def guardN (n : Nat) : Nat := checkN (n % 281474976710656) * 281474976710656 + n % 281474976710656
theorem checkN_lt (n : Nat) : checkN n < 65536 := by unfold checkN; omega
theorem guardN_lt (n : Nat) : guardN n < 18446744073709551616 := by have := checkN_lt (n % 281474976710656); unfold guardN; omega
theorem guardN_mod (n : Nat) : guardN n % 281474976710656 = n % 281474976710656 := by unfold guardN; omega
theorem guardN_low (n : Nat) : guardN (n % 281474976710656) = guardN n := by unfold guardN; rw [Nat.mod_mod]
theorem xor_ones {a : Nat} (h : a < 65536) : a ^^^ 65535 = 65535 - a := by
 apply Nat.eq_of_testBit_eq
 intro i
 rw [Nat.testBit_xor, show 65535 - a = 2 ^ 16 - (a + 1) by omega, Nat.testBit_two_pow_sub_succ (by omega), show (65535 : Nat) = 2 ^ 16 - 1 by omega, Nat.testBit_two_pow_sub_one]
 by_cases hi : i < 16
 ·simp [hi]
 ·have : a.testBit i = false := Nat.testBit_lt_two_pow (Nat.lt_of_lt_of_le h (Nat.pow_le_pow_right (n := 2) (by omega) (by omega : 16 ≤ i)))
  simp [hi, this]
theorem put_size (n k : Nat) : (⟨(putL n k).toArray⟩ : ByteArray).size = k := by
 show (putL n k).toArray.size = k
 simp [putL_length]
theorem K233.c {n : Nat} {h : Heap} {Q : QT} (hn : n < 18446744073709551616) (hq : Q (.int .u64 (checkN n)) h) : CT 233 #[.int .u64 n] h Q := by
 apply K233.ok
 unfold K233.wp
 refine K149.c hn ⟨_, rfl, K255.c ?_ ⟨_, rfl, ?_⟩⟩
 ·rw [put_size]; decide
 ·have hl := sum16_lt (putL n (cnt 6))
  rw [inotU (k := .u16) (m := 65535) rfl rfl (show 65535 < 2 ^ 16 by omega) (show sum16 (putL n (cnt 6)) < 2 ^ 16 from hl), xor_ones hl, u64_nat' (by omega)]
  exact hq
theorem field48 (n : Nat) : fieldV n 0 48 = n % 281474976710656 := by
 unfold fieldV
 rw [if_pos (by unfold mayP; omega)]
 unfold fieldN
 simp
theorem K188.c {n : Nat} {h : Heap} {Q : QT} (hn : n < 18446744073709551616) (hq : Q (.int .u64 (guardN n)) h) : CT 188 #[.int .u64 n] h Q := by
 apply K188.ok
 unfold K188.wp
 refine K157.c hn ⟨_, rfl, ?_⟩
 rw [field48]
 refine K233.c (by omega) ⟨_, rfl, ?_⟩
 have hc := checkN_lt (n % 281474976710656)
 rw [show (48 : Int) = ((48 : Nat) : Int) from rfl, ishl_u64 (by omega), ior_u64 (by omega) (by omega)]
 have e : checkN (n % 281474976710656) * 2 ^ 48 % 18446744073709551616 ||| n % 281474976710656 = guardN n := by
  rw [Nat.mod_eq_of_lt (by omega), Nat.mul_comm, ← Nat.two_pow_add_eq_or_of_lt (by omega)]
  unfold guardN; rw [Nat.mul_comm]
 rw [e]; exact hq
theorem K234.c {w : Nat} {h : Heap} {Q : QT} (hw : w < 18446744073709551616) (hq : Q (.tuple #[.int .u64 (if guardN w = w then w % 281474976710656 else 0 : Nat), .bool (decide (guardN w = w))]) h) : CT 234 #[.int .u64 w] h Q := by
 apply K234.ok
 unfold K234.wp
 refine K157.c hw ⟨_, rfl, ?_⟩
 rw [field48]
 refine K188.c (by omega) ⟨_, rfl, ?_⟩
 rw [guardN_low]
 by_cases e : guardN w = w
 ·rw [if_pos e, decide_eq_true e] at hq
  exact xsIf_f (by simp [e]) hq
 ·rw [if_neg e, decide_eq_false e] at hq
  exact xsIf_t (by simp; omega) hq
end Go.Gb
namespace Go.Gb
open Go.Proofs IntWalk
theorem int_cells : cellSize Tryz.prog 3 = 1 ∧ cellZero Tryz.prog 3 = [.int .i64 0] ∧ cellBytes Tryz.prog 3 = 8 := ⟨by kernel_rfl, by kernel_rfl, by kernel_rfl⟩
def bitAt (low : Bool) (b k : Nat) : Nat := b / 2 ^ (if low then k else 7 - k) % 2
def bitsL (low : Bool) (bs : List UInt8) : List Int := bs.flatMap fun b => tab 8 fun k => (bitAt low b.toNat k : Nat)
theorem bitsL_length (low : Bool) (bs : List UInt8) : (bitsL low bs).length = 8 * bs.length := by
 induction bs with
 | nil => rfl
 | cons b r ih => unfold bitsL at ih ⊢; rw [List.flatMap_cons, List.length_append, ih, tab_length, List.length_cons]; omega
theorem bitsL_snoc (low : Bool) (bs : List UInt8) (b : UInt8) : bitsL low (bs ++ [b]) = bitsL low bs ++ tab 8 fun k => (bitAt low b.toNat k : Nat) := by
 unfold bitsL; rw [List.flatMap_append]; simp
theorem field_bit {w k : Nat} (h : k < 64) : fieldV w k 1 = w / 2 ^ k % 2 := by
 unfold fieldV
 rw [if_pos (by unfold mayP; omega)]
 unfold fieldN
 simp
theorem K225.L6.c {s : ByteArray} {low : Bool} {h0 : Heap} {Q : QT} {i : Nat} {b : UInt8} {done : List Int} (hs : s.size ≤ 400) (hi : i < s.size) (hb : s.data.toList[i]? = some b) (hd : done.length = 8 * i)
  (hq : ∀ a c h, Own h0 h 3 1 a (8 * i + 8) c (ints .i64 (done ++ tab 8 fun k => (bitAt low b.toNat k : Nat))) → K225.L3 s low a (8 * i + 8) c ((i + 1 : Nat) : Int) h Q) : ∀ (j k : Nat) (a : Option Addr) (c : Nat) (h : Heap), k + j = 8 →
  Own h0 h 3 1 a (8 * i + k) c (ints .i64 (done ++ tab k fun k => (bitAt low b.toNat k : Nat))) → K225.L6 s low a (8 * i + k) c i k h Q := by
 intro j
 induction j with
 | zero =>
  intro k a c h hk w
  obtain rfl : k = 8 := by omega
  apply K225.L6.ok
  refine xsIf_f (by simp) ?_
  rw [i64_in _ (by omega)]
  exact hq a c h w
 | succ j ih =>
  intro k a c h hk w
  apply K225.L6.ok
  refine xsIf_t (by simp; omega) ?_
  have step : ∀ at0 : Nat, at0 = (if low then k else 7 - k) → K225.J11 s low a (8 * i + k) c i k at0 h Q := by
   intro at0 hat
   apply K225.J11.ok
   have hb1 := byte_lt b
   have hat64 : at0 < 64 := by cases low <;> simp at hat <;> omega
   refine ⟨b, by omega, by rw [Int.toNat_natCast, bget_get hi, ← hb]; exact (List.getElem?_eq_getElem _).symm, ?_⟩
   rw [u64_nat' (by omega)]
   refine K224.c (by omega) ⟨_, rfl, fun b1 hb1 => ?_⟩
   rw [field_bit hat64, i64_in _ (by omega)]
   refine w.isnoc hb1 int_cells.1 (by rw [int_cells.2.1]; rfl) (by rw [int_cells.2.2]; omega) fun a' c' h' w' => ?_
   rw [i64_in _ (by omega)]
   refine ih (k + 1) a' c' h' (by omega) ?_
   rw [List.append_assoc, show b.toNat / 2 ^ at0 % 2 = bitAt low b.toNat k by unfold bitAt; rw [hat], tab_snoc k fun k => ((bitAt low b.toNat k : Nat) : Int)] at w'
   exact w'
  cases low with
  | true => exact xsIf_t rfl (step k rfl)
  | false =>
   refine xsIf_f rfl ?_
   rw [i64_in _ (by omega), show (7 : Int) - (k : Int) = ((7 - k : Nat) : Int) by omega]
   exact step (7 - k) rfl
theorem K225.c {s : ByteArray} {low : Bool} {h : Heap} {Q : QT} (hs : s.size ≤ 400)
  (hq : ∀ a c h', Own h h' 3 1 a (8 * s.size) c (ints .i64 (bitsL low s.data.toList)) → Q (.slice a (8 * s.size : Nat) c) h') : CT 225 #[.string s, .bool low] h Q := by
 apply K225.ok
 have hlen : s.data.toList.length = s.size := by simp
 have loop : ∀ (j i : Nat) (a : Option Addr) (c : Nat) (h' : Heap), i + j = s.size → Own h h' 3 1 a (8 * i) c (ints .i64 (bitsL low (s.data.toList.take i))) → K225.L3 s low a (8 * i) c i h' Q := by
  intro j
  induction j with
  | zero =>
   intro i a c h' hi w
   obtain rfl : i = s.size := by omega
   apply K225.L3.ok
   refine xsIf_f (by simp) ?_
   rw [List.take_of_length_le (by omega)] at w
   exact hq a c h' w
  | succ j ih =>
   intro i a c h' hi w
   apply K225.L3.ok
   refine xsIf_t (by simp; omega) ?_
   have hlt : i < s.data.toList.length := by omega
   refine K225.L6.c (b := s.data.toList[i]) (done := bitsL low (s.data.toList.take i)) hs (by omega) (by simp) (by rw [bitsL_length, List.length_take]; omega) (fun a c h w => ?_) 8 0 a c h' (by omega) (by simpa [tab] using w)
   refine ih (i + 1) a c h (by omega) ?_
   rw [← bitsL_snoc, ← List.take_succ_eq_append_getElem hlt] at w
   exact w
 exact loop s.size 0 none 0 h (by omega) (Own.nil (Part.refl h))
def shiftF (n : Nat) (r : Nat → Int) : Nat → Int := fun j => if j + 1 < n then r (j + 1) else 0
def refS (n : Nat) (t r : Nat → Int) (x : Int) : Nat → Int := fun j => if (r 0 + x) % 2 = 1 then (shiftF n r j + t j) % 2 else shiftF n r j
def Bit (x : Int) : Prop := x = 0 ∨ x = 1
theorem refS_bit {n : Nat} {t r : Nat → Int} {x : Int} (hr : ∀ j, Bit (r j)) : ∀ j, Bit (refS n t r x j) := by
 intro j
 have hs : Bit (shiftF n r j) := by unfold shiftF; split; exact hr _; exact .inl rfl
 unfold refS
 split
 ·unfold Bit; omega
 ·exact hs
section
variable {l turns : Option Addr} {l_c turns_c n : Nat} {t : Nat → Int} {ls : List Int} {h0 : Heap} {Q : QT}
theorem ref_sum_add {r_c i : Nat} {r g : Nat → Int} {a : Option Addr} (hn64 : n ≤ 64) (hls : ls.length ≤ 100000) (hg : ∀ j, Bit (g j)) (ht : ∀ j, Bit (t j)) (hturns : readsAt h0 turns (ints .i64 (tab n t))) (hi : i < ls.length)
  (hq : ∀ h, Own h0 h 3 1 a n r_c (ints .i64 (tab n fun j => (g j + t j) % 2)) → K226.L7 l ls.length l_c turns n turns_c a n r_c ((i + 1 : Nat) : Int) h Q) : ∀ (j k : Nat) (h : Heap), k + j = n →
  Own h0 h 3 1 a n r_c (ints .i64 (tab n fun j => if j < k then (g j + t j) % 2 else g j)) → K226.L16 l ls.length l_c turns n turns_c a n r_c i 1 k h Q := by
 intro j
 induction j with
 | zero =>
  intro k h hk w
  apply K226.L16.ok
  refine xsIf_f (by simp; omega) ?_
  rw [i64_in _ (by omega)]
  refine hq h ?_
  rw [tab_congr (g := fun j => (g j + t j) % 2) (fun j hj => if_pos (by omega))] at w
  exact w
 | succ j ih =>
  intro k h hk w
  apply K226.L16.ok
  refine xsIf_t (by simp; omega) (xsIf_t rfl ?_)
  apply K226.J18.ok
  refine ⟨by omega, w.ibase (i := k) (by rw [tab_length]; omega) fun b hc hcan hput => ⟨by omega, reads_ints (i := k) (readsAt_part hturns w.part) (by rw [tab_length]; omega) fun b1 o1 hc1 => ?_⟩⟩
  refine ⟨_, by rw [Int.toNat_natCast]; exact hc k _ (tab_get _ (by omega)), _, by rw [Int.toNat_natCast]; exact hc1 k _ (tab_get _ (by omega)), by omega, w.ibase (i := k) (by rw [tab_length]; omega) fun b hc hcan hput => ⟨by rw [Int.toNat_natCast]; exact hcan k (by rw [tab_length]; omega), ?_⟩⟩
  have hgk := hg k
  have htk := ht k
  unfold Bit at hgk htk
  rw [Int.toNat_natCast, if_neg (by omega), i64_in (g k + t k) (by omega), irem_pos (by omega), i64_in _ (by omega)]
  refine ih (k + 1) _ (by omega) ?_
  have := hput k ((g k + t k) % 2) (by rw [tab_length]; omega)
  rw [tab_set] at this
  rw [tab_congr (g := fun j => if j < k + 1 then (g j + t j) % 2 else g j)] at this
  ·exact this
  ·intro q hq
   by_cases e : q = k
   ·subst e; rw [if_pos rfl, if_pos (by omega)]
   ·rw [if_neg e]
    by_cases e2 : q < k
    ·rw [if_pos e2, if_pos (by omega)]
    ·rw [if_neg e2, if_neg (by omega)]
theorem ref_sum_shift {r_c i : Nat} {r : Nat → Int} {out : Int} {a : Option Addr} (hn : 1 ≤ n) (hn64 : n ≤ 64)
  (hq : ∀ h, Own h0 h 3 1 a n r_c (ints .i64 (tab n (shiftF n r))) → K226.L16 l ls.length l_c turns n turns_c a n r_c i out 0 h Q) : ∀ (j k : Nat) (h : Heap), k + 1 + j = n →
  Own h0 h 3 1 a n r_c (ints .i64 (tab n fun j => if j < k then r (j + 1) else r j)) → K226.L11 l ls.length l_c turns n turns_c a n r_c i out k h Q := by
 intro j
 induction j with
 | zero =>
  intro k h hk w
  apply K226.L11.ok
  unfold K226.L11.wp
  rw [i64_in _ (by omega)]
  refine xsIf_f (by simp; omega) ?_
  apply K226.J14.ok
  unfold K226.J14.wp
  rw [i64_in _ (by omega), show (n : Int) - 1 = (k : Int) by omega]
  refine ⟨by omega, w.ibase (i := k) (by rw [tab_length]; omega) fun b hc hcan hput => ⟨by rw [Int.toNat_natCast]; exact hcan k (by rw [tab_length]; omega), hq _ ?_⟩⟩
  rw [Int.toNat_natCast]
  have := hput k 0 (by rw [tab_length]; omega)
  rw [tab_set, tab_congr (g := shiftF n r)] at this
  ·exact this
  ·intro q hq
   unfold shiftF
   by_cases e : q = k
   ·subst e; rw [if_pos rfl, if_neg (by omega)]
   ·rw [if_neg e, if_pos (by omega), if_pos (by omega)]
 | succ j ih =>
  intro k h hk w
  apply K226.L11.ok
  unfold K226.L11.wp
  rw [i64_in _ (by omega), show (k : Int) + 1 = ((k + 1 : Nat) : Int) by omega]
  refine xsIf_t (by simp; omega) ⟨by omega, w.ibase (i := k + 1) (by rw [tab_length]; omega) fun b hc hcan hput => ⟨_, by rw [Int.toNat_natCast]; exact hc (k + 1) _ (tab_get _ (by omega)), by omega, w.ibase (i := k) (by rw [tab_length]; omega) fun b hc hcan hput => ⟨by rw [Int.toNat_natCast]; exact hcan k (by rw [tab_length]; omega), ?_⟩⟩⟩
  rw [Int.toNat_natCast, if_neg (by omega)]
  refine ih (k + 1) _ (by omega) ?_
  have := hput k (r (k + 1)) (by rw [tab_length]; omega)
  rw [tab_set, tab_congr (g := fun j => if j < k + 1 then r (j + 1) else r j)] at this
  ·exact this
  ·intro q hq
   by_cases e : q = k
   ·subst e; rw [if_pos rfl, if_pos (by omega)]
   ·rw [if_neg e]
    by_cases e2 : q < k
    ·rw [if_pos e2, if_pos (by omega)]
    ·rw [if_neg e2, if_neg (by omega)]
theorem K226.c {h : Heap} (hn : 1 ≤ n) (hn64 : n ≤ 64) (hll : ls.length ≤ 100000) (hls : ∀ x ∈ ls, Bit x) (ht : ∀ j, Bit (t j)) (hl : readsAt h l (ints .i64 ls)) (hturns : readsAt h turns (ints .i64 (tab n t)))
  (hq : ∀ a c h', Own h h' 3 1 a n c (ints .i64 (tab n (ls.foldl (refS n t) (fun _ => 1)))) → Q (.slice a n c) h') : CT 226 #[.slice l ls.length l_c, .slice turns n turns_c] h Q := by
 apply K226.ok
 refine Own.make (h0 := h) (Part.refl h) int_cells.2.1 (by omega) (by rw [int_cells.2.2]; omega) (by omega) fun a h' w => ?_
 rw [Int.toNat_natCast] at w ⊢
 have loop7 : ∀ (j i : Nat) (r : Nat → Int) (h' : Heap), i + j = ls.length → (∀ j, Bit (r j)) → Own h h' 3 1 a n n (ints .i64 (tab n r)) →
   (∀ h'', Own h h'' 3 1 a n n (ints .i64 (tab n ((ls.drop i).foldl (refS n t) r))) → Q (.slice a n n) h'') → K226.L7 l ls.length l_c turns n turns_c a n n i h' Q := by
  intro j
  induction j with
  | zero =>
   intro i r h' hi hr w hq
   apply K226.L7.ok
   refine xsIf_f (by simp; omega) (hq h' ?_)
   rw [List.drop_eq_nil_of_le (by omega)]
   exact w
  | succ j ih =>
   intro i r h' hi hr w hq
   have hlt : i < ls.length := by omega
   rw [List.drop_eq_getElem_cons hlt, List.foldl_cons] at hq
   have hx := hls ls[i] (List.getElem_mem hlt)
   apply K226.L7.ok
   refine xsIf_t (by simp; omega) ⟨by omega, w.ibase (i := 0) (by rw [tab_length]; omega) fun b hc hcan hput => ⟨by omega, reads_ints (i := i) (readsAt_part hl w.part) hlt fun b1 o1 hc1 => ?_⟩⟩
   refine ⟨_, hc 0 _ (tab_get _ (by omega)), _, by rw [Int.toNat_natCast]; exact hc1 i _ (List.getElem?_eq_getElem hlt), ?_⟩
   have hr0 := hr 0
   unfold Bit at hr0 hx
   rw [i64_in _ (by omega), irem_pos (by omega)]
   have hsb : ∀ j, Bit (shiftF n r j) := by intro j; unfold shiftF; split; exact hr _; exact .inl rfl
   refine ref_sum_shift (r := r) hn hn64 (fun h2 w2 => ?_) (n - 1) 0 h' (by omega) (by rw [tab_congr (g := r) (fun j hj => if_neg (by omega))]; exact w)
   have hnb := refS_bit (n := n) (t := t) (x := ls[i]) hr
   by_cases ho : (r 0 + ls[i]) % 2 = 1
   ·rw [ho]
    have hre : tab n (fun j => (shiftF n r j + t j) % 2) = tab n (refS n t r ls[i]) := tab_congr fun j _ => by unfold refS; rw [if_pos ho]
    refine ref_sum_add (r := r) (g := shiftF n r) hn64 hll hsb ht hturns hlt (fun h3 w3 => ?_) n 0 h2 (by omega) (by rw [tab_congr (g := shiftF n r) (fun j hj => if_neg (by omega))]; exact w2)
    rw [hre] at w3
    exact ih (i + 1) _ h3 (by omega) hnb w3 hq
   ·have h0 : (r 0 + ls[i]) % 2 = 0 := by omega
    rw [h0]
    have hre : tab n (shiftF n r) = tab n (refS n t r ls[i]) := tab_congr fun j _ => by unfold refS; rw [if_neg ho]
    rw [hre] at w2
    apply K226.L16.ok
    refine xsIf_t (by simp; omega) (xsIf_f (by simp) ?_)
    rw [i64_in _ (by omega)]
    exact ih (i + 1) _ h2 (by omega) hnb w2 hq
 have loop3 : ∀ (j i : Nat) (h' : Heap), i + j = n → Own h h' 3 1 a n n (ints .i64 (tab n fun j => if j < i then 1 else 0)) → K226.L3 l ls.length l_c turns n turns_c a n n i h' Q := by
  intro j
  induction j with
  | zero =>
   intro i h' hi w
   apply K226.L3.ok
   refine xsIf_f (by simp; omega) ?_
   apply K226.J6.ok
   rw [tab_congr (g := fun _ => 1) (fun j hj => if_pos (by omega))] at w
   exact loop7 ls.length 0 _ h' (by omega) (fun _ => .inr rfl) w (fun h'' w => hq _ _ _ w)
  | succ j ih =>
   intro i h' hi w
   apply K226.L3.ok
   refine xsIf_t (by simp; omega) ⟨by omega, w.ibase (i := i) (by rw [tab_length]; omega) fun b hc hcan hput => ⟨by rw [Int.toNat_natCast]; exact hcan i (by rw [tab_length]; omega), ?_⟩⟩
   rw [Int.toNat_natCast, i64_in _ (by omega)]
   refine ih (i + 1) _ (by omega) ?_
   have := hput i 1 (by rw [tab_length]; omega)
   rw [tab_set, tab_congr (g := fun j => if j < i + 1 then 1 else 0)] at this
   ·exact this
   ·intro q hq
    by_cases e : q = i
    ·subst e; rw [if_pos rfl, if_pos (by omega)]
    ·rw [if_neg e]
     by_cases e2 : q < i
     ·rw [if_pos e2, if_pos (by omega)]
     ·rw [if_neg e2, if_neg (by omega)]
 refine loop3 n 0 h' (by omega) ?_
 have e : (tab n fun _ => (0 : Int)) = tab n fun j => if j < 0 then 1 else 0 := tab_congr fun j _ => by simp
 have w' : Own h h' 3 1 a n n (ints .i64 (tab n fun _ => 0)) := by
  have e2 : List.replicate n (Value.int .i64 0) = ints .i64 (List.replicate n 0) := by simp [ints]
  rw [← tab_replicate, ← e2]; simpa using w
 rw [e] at w'
 exact w'
end
def numL (l : List Int) : Nat := l.foldl (fun n x => 2 * n + x.toNat) 0
theorem K227.c {a : Option Addr} {c : Nat} {ls : List Int} {h : Heap} {Q : QT} (hl : ls.length ≤ 60) (hb : ∀ x ∈ ls, Bit x) (hr : readsAt h a (ints .i64 ls)) (hq : Q (.int .u64 (numL ls)) h) :
  CT 227 #[.slice a ls.length c] h Q := by
 apply K227.ok
 have loop : ∀ (j i n : Nat), i + j = ls.length → n < 2 ^ i → Q (.int .u64 ((ls.drop i).foldl (fun n x => 2 * n + x.toNat) n : Nat)) h → K227.L3 a ls.length c n i h Q := by
  intro j
  induction j with
  | zero =>
   intro i n hi hn hq
   apply K227.L3.ok
   refine xsIf_f (by simp; omega) ?_
   rw [List.drop_eq_nil_of_le (by omega)] at hq
   exact hq
  | succ j ih =>
   intro i n hi hn hq
   have hlt : i < ls.length := by omega
   rw [List.drop_eq_getElem_cons hlt, List.foldl_cons] at hq
   have hx := hb ls[i] (List.getElem_mem hlt)
   unfold Bit at hx
   have hp : 2 ^ i ≤ 2 ^ 60 := Nat.pow_le_pow_right (by omega) (by omega)
   apply K227.L3.ok
   refine xsIf_t (by simp; omega) ⟨by omega, reads_ints (i := i) hr hlt fun b o hc => ⟨_, by rw [Int.toNat_natCast]; exact hc i _ (List.getElem?_eq_getElem hlt), ?_⟩⟩
   obtain ⟨x, hxe⟩ : ∃ x : Nat, ls[i] = x := ⟨ls[i].toNat, by omega⟩
   rw [hxe] at hx hq ⊢
   rw [show (2 : Int) * (n : Int) = ((2 * n : Nat) : Int) by omega, u64_nat' (by omega), u64_nat' (by omega), show ((2 * n : Nat) : Int) + (x : Int) = ((2 * n + x : Nat) : Int) by omega, u64_nat' (by omega), i64_in _ (by omega)]
   rw [Int.toNat_natCast] at hq
   exact ih (i + 1) _ (by omega) (by rw [Nat.pow_succ]; omega) hq
 exact loop ls.length 0 0 (by omega) (by omega) hq
end Go.Gb
namespace Go.Gb
open Go.Proofs IntWalk
theorem bit_bool (b : Bool) : Bit (b.toNat : Int) := by cases b; exact .inl rfl; exact .inr rfl
theorem out_xor (a b : Bool) : (((a.toNat : Int) + (b.toNat : Int)) % 2 = 1) ↔ (a ^^ b) = true := by cases a <;> cases b <;> simp
theorem add_xor (a b : Bool) : ((a.toNat : Int) + (b.toNat : Int)) % 2 = ((a ^^ b).toNat : Int) := by cases a <;> cases b <;> rfl
def reg16 (R j : Nat) : Int := ((R.testBit (15 - j)).toNat : Int)
def t16 : Nat → Int := reg16 4129
def Rel16 (r : Nat → Int) (R : Nat) : Prop := R < 65536 ∧ ∀ j, j < 16 → r j = reg16 R j
theorem c16_test (R i : Nat) : (c16 R).testBit i = ((decide (i < 16) && (decide (1 ≤ i) && R.testBit (i - 1))) ^^ (R.testBit 15 && (4129 : Nat).testBit i)) := by
 unfold c16
 rw [Nat.testBit_xor]
 congr 1
 ·rw [show 2 * R = R * 2 ^ 1 by omega, show (65536 : Nat) = 2 ^ 16 from rfl, Nat.testBit_mod_two_pow, Nat.testBit_mul_two_pow]
 ·cases R.testBit 15 <;> simp
theorem top_test (b : Bool) (i : Nat) : (b.toNat * 32768).testBit i = (b && decide (i = 15)) := by
 cases b with
 | false => simp
 | true =>
  rw [show true.toNat * 32768 = 2 ^ 15 from rfl, Nat.testBit_two_pow]
  simp [eq_comm]
theorem rel16_step {r : Nat → Int} {R : Nat} (h : Rel16 r R) (b : Bool) : Rel16 (refS 16 t16 r (b.toNat : Int)) (c16 (R ^^^ b.toNat * 32768)) := by
 have hx : R ^^^ b.toNat * 32768 < 65536 := xor_lt (w := 16) h.1 (by cases b <;> decide)
 refine ⟨c16_lin.lt _ hx, fun j hj => ?_⟩
 have h0 := h.2 0 (by omega)
 have e15 : (R ^^^ b.toNat * 32768).testBit 15 = (R.testBit 15 ^^ b) := by rw [Nat.testBit_xor, top_test]; simp
 have hsh : shiftF 16 r j = ((decide (15 - j < 16) && (decide (1 ≤ 15 - j) && (R ^^^ b.toNat * 32768).testBit (15 - j - 1))).toNat : Int) := by
  unfold shiftF
  by_cases h1 : j + 1 < 16
  ·rw [if_pos h1, h.2 _ h1]
   unfold reg16
   rw [Nat.testBit_xor, top_test, show 15 - (j + 1) = 15 - j - 1 by omega]
   have : decide (15 - j - 1 = 15) = false := by simp; omega
   rw [this]
   simp [show 15 - j < 16 by omega, show 1 ≤ 15 - j by omega]
  ·rw [if_neg h1]
   simp [show ¬ 1 ≤ 15 - j by omega]
 unfold refS
 rw [hsh, h0]
 unfold reg16 t16
 simp only [show 15 - 0 = 15 from rfl]
 rw [c16_test, e15]
 by_cases ho : (((R.testBit 15).toNat : Int) + (b.toNat : Int)) % 2 = 1
 ·rw [if_pos ho, (out_xor _ _).1 ho]
  unfold reg16
  rw [add_xor]; simp
 ·rw [if_neg ho]
  have : (R.testBit 15 ^^ b) = false := by
   cases hq : (R.testBit 15 ^^ b) with
   | false => rfl
   | true => exact absurd ((out_xor _ _).2 hq) ho
  rw [this]; simp
theorem bit_toNat (n k : Nat) : n / 2 ^ k % 2 = (n.testBit k).toNat := by
 rw [Nat.testBit_eq_decide_div_mod_eq]
 rcases Nat.mod_two_eq_zero_or_one (n / 2 ^ k) with h | h <;> simp [h]
theorem rest16 {b k : Nat} (hb : b < 256) (hk : k < 8) : c16 ((b * 2 ^ (8 + k) % 65536) ^^^ (b.testBit (7 - k)).toNat * 32768) = b * 2 ^ (8 + (k + 1)) % 65536 := by
 have ht : ∀ i, (b * 2 ^ (8 + k) % 65536).testBit i = (decide (i < 16) && (decide (8 + k ≤ i) && b.testBit (i - (8 + k)))) := by
  intro i
  rw [show (65536 : Nat) = 2 ^ 16 from rfl, Nat.testBit_mod_two_pow, Nat.testBit_mul_two_pow]
 apply Nat.eq_of_testBit_eq
 intro i
 rw [c16_test, Nat.testBit_xor, Nat.testBit_xor, top_test, top_test, ht, ht]
 rw [show (65536 : Nat) = 2 ^ 16 from rfl, Nat.testBit_mod_two_pow, Nat.testBit_mul_two_pow]
 have e1 : (decide (15 < 16) && (decide (8 + k ≤ 15) && b.testBit (15 - (8 + k))) ^^ (b.testBit (7 - k) && decide (15 = 15))) = false := by
  rw [show 15 - (8 + k) = 7 - k by omega]; simp [show 8 + k ≤ 15 by omega]
 rw [e1]
 by_cases h1 : i < 16
 ·by_cases h2 : 1 ≤ i
  ·have e3 : decide (i - 1 = 15) = false := by simp; omega
   rw [e3]
   have e4 : decide (8 + k ≤ i - 1) = decide (8 + (k + 1) ≤ i) := by rw [decide_eq_decide]; omega
   rw [e4, show i - 1 - (8 + k) = i - (8 + (k + 1)) by omega]
   simp [h1, h2, show i - 1 < 16 by omega]
  ·have : decide (8 + (k + 1) ≤ i) = false := by simp; omega
   simp [h2, this]
 ·simp [h1]
theorem rel16_byte {r : Nat → Int} {R : Nat} (h : Rel16 r R) (b : UInt8) : Rel16 ((tab 8 fun k => (bitAt false b.toNat k : Nat)).foldl (refS 16 t16) r) (iter c16 8 (R ^^^ b.toNat * 256)) := by
 have hb := byte_lt b
 have hx : R ^^^ b.toNat * 256 < 65536 := xor_lt (w := 16) h.1 (by omega)
 have key : ∀ k, k ≤ 8 → Rel16 ((tab k fun k => (bitAt false b.toNat k : Nat)).foldl (refS 16 t16) r) (iter c16 k (R ^^^ b.toNat * 256) ^^^ (b.toNat * 2 ^ (8 + k) % 65536)) := by
  intro k
  induction k with
  | zero =>
   intro _
   have : R ^^^ b.toNat * 256 ^^^ (b.toNat * 2 ^ (8 + 0) % 65536) = R := by
    rw [show b.toNat * 2 ^ (8 + 0) % 65536 = b.toNat * 256 by omega, Nat.xor_assoc, Nat.xor_self, Nat.xor_zero]
   show Rel16 r (R ^^^ b.toNat * 256 ^^^ (b.toNat * 2 ^ (8 + 0) % 65536))
   rw [this]; exact h
  | succ k ih =>
   intro hk
   have hs := rel16_step (ih (by omega)) (b.toNat.testBit (7 - k))
   rw [← tab_snoc, List.foldl_append, List.foldl_cons, List.foldl_nil]
   have e0 : ((bitAt false b.toNat k : Nat) : Int) = ((b.toNat.testBit (7 - k)).toNat : Int) := by
    unfold bitAt; rw [if_neg (by simp), bit_toNat]
   rw [e0]
   have hi := (c16_lin.iter k).lt _ hx
   have hm : b.toNat * 2 ^ (8 + k) % 65536 < 2 ^ 16 := Nat.mod_lt _ (by omega)
   have htp : (b.toNat.testBit (7 - k)).toNat * 32768 < 2 ^ 16 := by cases b.toNat.testBit (7 - k) <;> decide
   rw [Nat.xor_assoc, c16_lin.xor _ _ hi (xor_lt hm htp), rest16 hb (by omega), ← iter_succ c16] at hs
   exact hs
 have := key 8 (by omega)
 rw [show b.toNat * 2 ^ (8 + 8) % 65536 = 0 by omega, Nat.xor_zero] at this
 exact this
theorem rel16_all : ∀ (bs : List UInt8) {r : Nat → Int} {R : Nat}, Rel16 r R → Rel16 ((bitsL false bs).foldl (refS 16 t16) r) (chk (iter c16 8) (fun b => b * 256) R bs) := by
 intro bs
 induction bs with
 | nil => intro r R h; exact h
 | cons b bs ih =>
  intro r R h
  unfold bitsL
  rw [List.flatMap_cons, List.foldl_append, chk_cons]
  exact ih (rel16_byte h b)
theorem numL_tab {w R : Nat} (hR : R < 2 ^ w) : numL (tab w fun k => ((R.testBit (w - 1 - k)).toNat : Int)) = R := by
 have key : ∀ k, k ≤ w → numL (tab k fun k => ((R.testBit (w - 1 - k)).toNat : Int)) = R / 2 ^ (w - k) := by
  intro k
  induction k with
  | zero => intro _; rw [Nat.sub_zero, Nat.div_eq_of_lt hR]; rfl
  | succ k ih =>
   intro hk
   have e := ih (by omega)
   unfold numL at e ⊢
   rw [← tab_snoc, List.foldl_append, List.foldl_cons, List.foldl_nil, e, Int.toNat_natCast, ← bit_toNat, show w - k = w - 1 - k + 1 by omega, show w - (k + 1) = w - 1 - k by omega, Nat.pow_succ, ← Nat.div_div_eq_div_mul]
   omega
 have := key w (by omega)
 rw [Nat.sub_self, Nat.pow_zero, Nat.div_one] at this
 exact this
theorem K194.c {s : ByteArray} {h : Heap} {Q : QT} (hs : s.size ≤ 400) (hq : ∀ h', Part h h' → Q (.int .u64 (sum16 s.data.toList)) h') : CT 194 #[.string s] h Q := by
 apply K194.ok
 intro b hb
 refine K225.c hs fun a c h1 w1 => ⟨_, _, _, rfl, ?_⟩
 have hl : (bitsL false s.data.toList).length = 8 * s.size := by rw [bitsL_length]; simp
 rw [← hl]
 have hrel := rel16_all s.data.toList (r := fun _ => 1) (R := 65535) ⟨by omega, fun j hj => by
  unfold reg16
  have : ∀ j, j < 16 → (1 : Int) = (((65535 : Nat).testBit (15 - j)).toNat : Int) := by decide
  exact this j hj⟩
 have ht : tab 16 t16 = [0, 0, 0, 1, 0, 0, 0, 0, 0, 0, 1, 0, 0, 0, 0, 1] := by decide
 refine K226.c (n := 16) (t := t16) (ls := bitsL false s.data.toList) (by omega) (by omega) (by omega) ?_ (fun j => bit_bool _) w1.reads ?_ (fun a2 c2 h2 w2 => ⟨_, _, _, rfl, ?_⟩)
 ·intro x hx
  unfold bitsL at hx
  obtain ⟨y, _, hx⟩ := List.mem_flatMap.1 hx
  unfold tab at hx
  obtain ⟨k, _, rfl⟩ := List.mem_map.1 hx
  unfold Bit bitAt; omega
 ·rw [ht]
  exact readsAt_part (readsAt_new 3 (ints .i64 [0, 0, 0, 1, 0, 0, 0, 0, 0, 0, 1, 0, 0, 0, 0, 1])) w1.part
 ·have e : tab 16 ((bitsL false s.data.toList).foldl (refS 16 t16) fun _ => 1) = tab 16 fun k => (((sum16 s.data.toList).testBit (16 - 1 - k)).toNat : Int) := tab_congr fun j hj => hrel.2 j hj
  rw [e] at w2
  have hn := numL_tab (w := 16) (R := sum16 s.data.toList) (sum16_lt _)
  have key := K227.c (a := a2) (c := c2) (ls := tab 16 fun k => (((sum16 s.data.toList).testBit (16 - 1 - k)).toNat : Int)) (h := h2) (Q := fun r h' => ∃ x, r = .int .u64 x ∧ Q (.int .u64 x) h') (by rw [tab_length]; omega) (by
   intro x hx
   unfold tab at hx
   obtain ⟨k, _, rfl⟩ := List.mem_map.1 hx
   exact bit_bool _) w2.reads ⟨_, rfl, by rw [hn]; exact hq h2 ((Part.upd hb _).trans (w1.part.trans w2.part))⟩
  rw [tab_length] at key
  exact key
def reg32 (R j : Nat) : Int := ((R.testBit j).toNat : Int)
def t32 : Nat → Int := reg32 2197175160
def Rel32 (r : Nat → Int) (R : Nat) : Prop := R < 4294967296 ∧ ∀ j, j < 32 → r j = reg32 R j
theorem c32_test (R i : Nat) : (c32 R).testBit i = (R.testBit (i + 1) ^^ (R.testBit 0 && (2197175160 : Nat).testBit i)) := by
 unfold c32
 rw [Nat.testBit_xor]
 congr 1
 ·rw [show R / 2 = R / 2 ^ 1 from rfl, Nat.testBit_div_two_pow]
 ·cases R.testBit 0 <;> simp
theorem low_test (b : Bool) (i : Nat) : (b.toNat).testBit i = (b && decide (i = 0)) := by
 cases b with
 | false => simp
 | true => cases i <;> simp [Nat.testBit_succ]
theorem rel32_step {r : Nat → Int} {R : Nat} (h : Rel32 r R) (b : Bool) : Rel32 (refS 32 t32 r (b.toNat : Int)) (c32 (R ^^^ b.toNat)) := by
 have hx : R ^^^ b.toNat < 4294967296 := xor_lt (w := 32) h.1 (by cases b <;> decide)
 refine ⟨c32_lin.lt _ hx, fun j hj => ?_⟩
 have h0 := h.2 0 (by omega)
 have e15 : (R ^^^ b.toNat).testBit 0 = (R.testBit 0 ^^ b) := by rw [Nat.testBit_xor, low_test]; simp
 have hsh : shiftF 32 r j = (((R ^^^ b.toNat).testBit (j + 1)).toNat : Int) := by
  unfold shiftF
  rw [Nat.testBit_xor, low_test]
  by_cases h1 : j + 1 < 32
  ·rw [if_pos h1, h.2 _ h1]
   unfold reg32
   simp
  ·rw [if_neg h1]
   have : R.testBit (j + 1) = false := Nat.testBit_lt_two_pow (Nat.lt_of_lt_of_le h.1 (Nat.pow_le_pow_right (n := 2) (by omega) (by omega : 32 ≤ j + 1)))
   rw [this]; simp
 unfold refS
 rw [hsh, h0]
 unfold reg32 t32
 rw [c32_test, e15]
 by_cases ho : (((R.testBit 0).toNat : Int) + (b.toNat : Int)) % 2 = 1
 ·rw [if_pos ho, (out_xor _ _).1 ho]
  unfold reg32
  rw [add_xor]; simp
 ·rw [if_neg ho]
  have : (R.testBit 0 ^^ b) = false := by
   cases hq : (R.testBit 0 ^^ b) with
   | false => rfl
   | true => exact absurd ((out_xor _ _).2 hq) ho
  rw [this]; simp
theorem rest32 (y : Nat) : c32 (y ^^^ (y.testBit 0).toNat) = y / 2 := by
 apply Nat.eq_of_testBit_eq
 intro i
 rw [c32_test, Nat.testBit_xor, Nat.testBit_xor, low_test, low_test, show y / 2 = y / 2 ^ 1 from rfl, Nat.testBit_div_two_pow]
 simp
theorem rel32_byte {r : Nat → Int} {R : Nat} (h : Rel32 r R) (b : UInt8) : Rel32 ((tab 8 fun k => (bitAt true b.toNat k : Nat)).foldl (refS 32 t32) r) (iter c32 8 (R ^^^ b.toNat)) := by
 have hb := byte_lt b
 have hx : R ^^^ b.toNat < 4294967296 := xor_lt (w := 32) h.1 (by omega)
 have key : ∀ k, k ≤ 8 → Rel32 ((tab k fun k => (bitAt true b.toNat k : Nat)).foldl (refS 32 t32) r) (iter c32 k (R ^^^ b.toNat) ^^^ (b.toNat / 2 ^ k)) := by
  intro k
  induction k with
  | zero =>
   intro _
   have : R ^^^ b.toNat ^^^ (b.toNat / 2 ^ 0) = R := by
    rw [Nat.pow_zero, Nat.div_one, Nat.xor_assoc, Nat.xor_self, Nat.xor_zero]
   show Rel32 r (R ^^^ b.toNat ^^^ (b.toNat / 2 ^ 0))
   rw [this]; exact h
  | succ k ih =>
   intro hk
   have hs := rel32_step (ih (by omega)) (b.toNat.testBit k)
   rw [← tab_snoc, List.foldl_append, List.foldl_cons, List.foldl_nil]
   have e0 : ((bitAt true b.toNat k : Nat) : Int) = ((b.toNat.testBit k).toNat : Int) := by
    unfold bitAt; rw [if_pos rfl, bit_toNat]
   rw [e0]
   have hi := (c32_lin.iter k).lt _ hx
   have hm : b.toNat / 2 ^ k < 2 ^ 32 := Nat.lt_of_le_of_lt (Nat.div_le_self _ _) (by omega)
   have htp : (b.toNat.testBit k).toNat < 2 ^ 32 := by cases b.toNat.testBit k <;> decide
   have e1 : b.toNat.testBit k = (b.toNat / 2 ^ k).testBit 0 := by rw [Nat.testBit_div_two_pow, Nat.zero_add]
   rw [Nat.xor_assoc, c32_lin.xor _ _ hi (xor_lt hm htp), ← iter_succ c32] at hs
   rw [e1] at hs ⊢
   rw [rest32, Nat.div_div_eq_div_mul, ← Nat.pow_succ] at hs
   exact hs
 have := key 8 (by omega)
 rw [show b.toNat / 2 ^ 8 = 0 by omega, Nat.xor_zero] at this
 exact this
theorem rel32_all : ∀ (bs : List UInt8) {r : Nat → Int} {R : Nat}, Rel32 r R → Rel32 ((bitsL true bs).foldl (refS 32 t32) r) (chk (iter c32 8) (fun b => b) R bs) := by
 intro bs
 induction bs with
 | nil => intro r R h; exact h
 | cons b bs ih =>
  intro r R h
  unfold bitsL
  rw [List.flatMap_cons, List.foldl_append, chk_cons]
  exact ih (rel32_byte h b)
theorem K175.c {s : ByteArray} {h : Heap} {Q : QT} (hs : s.size ≤ 400) (hq : ∀ h', Part h h' → Q (.int .u64 (sum32 s.data.toList)) h') : CT 175 #[.string s] h Q := by
 apply K175.ok
 have hrel := rel32_all s.data.toList (r := fun _ => 1) (R := 4294967295) ⟨by omega, fun j hj => by
  unfold reg32
  have : ∀ j, j < 32 → (1 : Int) = (((4294967295 : Nat).testBit j).toNat : Int) := by decide
  exact this j hj⟩
 generalize hR : chk (iter c32 8) (fun b => b) 4294967295 s.data.toList = R at hrel
 have hsum : sum32 s.data.toList = R ^^^ 4294967295 := by rw [← hR]; rfl
 rw [hsum] at hq
 have l12 : ∀ (a : Option Addr) (c : Nat) (h2 : Heap) (hp : Part h h2) (hr : readsAt h2 a (ints .i64 (tab 32 (reg32 R)))) (j k : Nat) (a' : Option Addr) (c' : Nat) (h3 : Heap), k + j = 32 →
   Own h2 h3 3 1 a' k c' (ints .i64 (tab k fun k => (((R ^^^ 4294967295).testBit (32 - 1 - k)).toNat : Int))) → K175.L12 a 32 c a' k c' k h3 Q := by
  intro a c h2 hp hr j
  induction j with
  | zero =>
   intro k a' c' h3 hk w
   obtain rfl : k = 32 := by omega
   apply K175.L12.ok
   refine xsIf_f (by simp) ?_
   have hn := numL_tab (w := 32) (R := R ^^^ 4294967295) (xor_lt hrel.1 (by omega))
   have key := K227.c (a := a') (c := c') (ls := tab 32 fun k => (((R ^^^ 4294967295).testBit (32 - 1 - k)).toNat : Int)) (h := h3) (Q := fun r h' => ∃ x, r = .int .u64 x ∧ Q (.int .u64 x) h') (by rw [tab_length]; omega) (by
    intro x hx
    unfold tab at hx
    obtain ⟨k, _, rfl⟩ := List.mem_map.1 hx
    exact bit_bool _) w.reads ⟨_, rfl, by rw [hn]; exact hq h3 (hp.trans w.part)⟩
   rw [tab_length] at key
   exact key
  | succ j ih =>
   intro k a' c' h3 hk w
   apply K175.L12.ok
   unfold K175.L12.wp
   rw [i64_in (31 - (k : Int)) (by omega), show (31 : Int) - (k : Int) = ((31 - k : Nat) : Int) by omega]
   refine xsIf_t (by simp; omega) ⟨by omega, reads_ints (i := 31 - k) (readsAt_part hr w.part) (by rw [tab_length]; omega) fun b o hc => ⟨_, by rw [Int.toNat_natCast]; exact hc (31 - k) _ (tab_get _ (by omega)), fun b1 hb1 => ?_⟩⟩
   have hbit := bit_bool (R.testBit (31 - k))
   unfold Bit at hbit
   unfold reg32
   rw [i64_in _ (by omega), i64_in _ (by omega)]
   have e : (1 : Int) - ((R.testBit (31 - k)).toNat : Int) = (((R ^^^ 4294967295).testBit (32 - 1 - k)).toNat : Int) := by
    rw [Nat.testBit_xor, show (4294967295 : Nat) = 2 ^ 32 - 1 from rfl, Nat.testBit_two_pow_sub_one, show 32 - 1 - k = 31 - k by omega]
    simp only [show 31 - k < 32 by omega, decide_true]
    cases R.testBit (31 - k) <;> rfl
   rw [e]
   refine w.isnoc hb1 int_cells.1 (by rw [int_cells.2.1]; rfl) (by rw [int_cells.2.2]; omega) fun a'' c'' h' w' => ?_
   rw [tab_snoc k fun k => (((R ^^^ 4294967295).testBit (32 - 1 - k)).toNat : Int)] at w'
   exact ih (k + 1) a'' c'' h' (by omega) w'
 have l4 : ∀ (j k : Nat) (a' : Option Addr) (c' : Nat) (h3 : Heap), k + j = 32 → Own h h3 3 1 a' k c' (ints .i64 (tab k t32)) → K175.L4 s 2197175160 a' k c' k h3 Q := by
  intro j
  induction j with
  | zero =>
   intro k a' c' h3 hk w
   obtain rfl : k = 32 := by omega
   apply K175.L4.ok
   refine xsIf_f (by simp) ?_
   apply K175.J8.ok
   refine K225.c hs fun a c h1 w1 => ⟨_, _, _, rfl, ?_⟩
   have hl : (bitsL true s.data.toList).length = 8 * s.size := by rw [bitsL_length]; simp
   rw [← hl]
   refine K226.c (n := 32) (t := t32) (ls := bitsL true s.data.toList) (by omega) (by omega) (by omega) ?_ (fun j => bit_bool _) w1.reads (readsAt_part w.reads w1.part) (fun a2 c2 h2 w2 => ⟨_, _, _, rfl, ?_⟩)
   ·intro x hx
    unfold bitsL at hx
    obtain ⟨y, _, hx⟩ := List.mem_flatMap.1 hx
    unfold tab at hx
    obtain ⟨k, _, rfl⟩ := List.mem_map.1 hx
    unfold Bit bitAt; omega
   ·have e : tab 32 ((bitsL true s.data.toList).foldl (refS 32 t32) fun _ => 1) = tab 32 (reg32 R) := tab_congr fun j hj => hrel.2 j hj
    rw [e] at w2
    exact l12 a2 c2 h2 (w.part.trans (w1.part.trans w2.part)) w2.reads 32 0 none 0 h2 (by omega) (Own.nil (Part.refl h2))
  | succ j ih =>
   intro k a' c' h3 hk w
   apply K175.L4.ok
   refine xsIf_t (by simp; omega) ?_
   refine K224.c (w := 2197175160) (by omega) ⟨_, rfl, fun b1 hb1 => ?_⟩
   have e : ((fieldV 2197175160 (k : Int) 1 : Nat) : Int) = t32 k := by
    rw [field_bit (by omega), bit_toNat]; rfl
   have ht : t32 k = 0 ∨ t32 k = 1 := bit_bool _
   rw [e, i64_in (t32 k) (by omega)]
   refine w.isnoc hb1 int_cells.1 (by rw [int_cells.2.1]; rfl) (by rw [int_cells.2.2]; omega) fun a'' c'' h' w' => ?_
   rw [tab_snoc k t32] at w'
   rw [i64_in _ (by omega)]
   exact ih (k + 1) a'' c'' h' (by omega) w'
 exact l4 32 0 none 0 h (by omega) (Own.nil (Part.refl h))
theorem K129.c {n : Nat} {h : Heap} {Q : QT} (hn : n < 18446744073709551616) (hq : ∀ h', Part h h' → Q (.int .u64 (guardN n)) h') : CT 129 #[.int .u64 n] h Q := by
 apply K129.ok
 unfold K129.wp
 rw [show (281474976710656 : Int) = ((281474976710656 : Nat) : Int) from rfl, irem_nat]
 refine K174.c (by omega) ⟨_, rfl, ?_⟩
 refine K194.c (by rw [put_size]; decide) fun h' hp => ⟨_, rfl, ?_⟩
 have hl := sum16_lt (putL (n % 281474976710656) (cnt 6))
 have e : (65535 : Int) - ((sum16 (⟨(putL (n % 281474976710656) (cnt 6)).toArray⟩ : ByteArray).data.toList : Nat) : Int) = ((checkN (n % 281474976710656) : Nat) : Int) := by
  show (65535 : Int) - ((sum16 (putL (n % 281474976710656) (cnt 6)) : Nat) : Int) = ((65535 - sum16 (putL (n % 281474976710656) (cnt 6)) : Nat) : Int)
  omega
 have hc := checkN_lt (n % 281474976710656)
 rw [e, u64_nat' (by omega), ← Int.natCast_mul, u64_nat' (by omega), ← Int.natCast_add, u64_nat' (by omega)]
 exact hq h' hp
end Go.Gb
namespace Go.Gb
open Go.Proofs IntWalk
def rightP (s0 s1 n : Int) : Prop := 1 ≤ n ∧ n ≤ 1024 ∧ 0 ≤ s0 ∧ s0 < n ∧ 0 ≤ s1 ∧ s1 ≤ n
instance (a b c : Int) : Decidable (rightP a b c) := by unfold rightP; infer_instance
theorem K208.c {n : Int} {h : Heap} {Q : QT} (hq : Q (.bool (decide (1 ≤ n ∧ n ≤ 1024))) h) : CT 208 #[.int .i64 n] h Q := by
 apply K208.ok
 unfold K208.wp
 refine xsIf_intro (fun hc => ?_) (fun hc => ?_) <;> simp at hc
 ·rw [show decide (n ≤ 1024) = decide (1 ≤ n ∧ n ≤ 1024) by simp [hc]]; exact hq
 ·rw [show false = decide (1 ≤ n ∧ n ≤ 1024) by simp; omega]; exact hq
theorem K156.c {s0 s1 s2 n : Int} {h : Heap} {Q : QT} (hq : Q (.bool (decide (rightP s0 s1 n))) h) :
  CT 156 #[.agg #[.int .i64 s0, .int .i64 s1, .int .u32 s2], .int .i64 n] h Q := by
 have hq' : ∀ b, (b = true ↔ rightP s0 s1 n) → Q (.bool b) h := fun b hb => by
  rw [show b = decide (rightP s0 s1 n) by rw [Bool.eq_iff_iff]; simpa using hb]; exact hq
 apply K156.ok
 unfold K156.wp
 refine K208.c ⟨_, rfl, ?_⟩
 repeat' refine xsIf_intro (fun hc => ?_) (fun hc => ?_)
 all_goals
  apply hq'
  unfold rightP
  simp at *
  omega
def nextS (s0 s1 s2 n : Int) : Int × Int × Int × Int × Int :=
 if rightP s0 s1 n then
  if 0 < s1 then (s0, s1 - 1, IntKind.u32.wrap (s2 + 1), s1 - 1, s1)
  else ((s0 + 1) % n, n, IntKind.u32.wrap (s2 + 1), n, 0)
 else (0, 0, 0, 0, 0)
theorem K246.c {s0 s1 s2 n a b c d e : Int} {h : Heap} {Q : QT} (hr : nextS s0 s1 s2 n = (a, b, c, d, e))
  (hq : Q (.tuple #[.agg #[.int .i64 a, .int .i64 b, .int .u32 c], .int .i64 d, .int .i64 e]) h) :
  CT 246 #[.agg #[.int .i64 s0, .int .i64 s1, .int .u32 s2], .int .i64 n] h Q := by
 apply K246.ok
 unfold K246.wp
 refine K156.c ⟨_, rfl, ?_⟩
 unfold nextS at hr
 refine xsIf_intro (fun hc => ?_) (fun hc => ?_)
 ·simp at hc
  rw [if_neg hc] at hr
  cases hr
  exact hq
 ·simp at hc
  rw [if_pos hc] at hr
  unfold rightP at hc
  refine xsIf_intro (fun h1 => ?_) (fun h1 => ?_)
  ·simp at h1
   rw [if_pos h1] at hr
   cases hr
   rw [i64_in _ (by omega)]
   exact hq
  ·simp at h1
   rw [if_neg (by omega)] at hr
   cases hr
   refine ⟨by omega, ?_⟩
   unfold irem
   rw [i64_in _ (by omega), rem_in _ _ (by omega)]
   exact hq
theorem K147.c {n : Int} {h : Heap} {Q : QT} (hq : Q (.agg #[.int .i64 0, .int .i64 (if 1 ≤ n ∧ n ≤ 1024 then n else 0), .int .u32 0]) h) : CT 147 #[.int .i64 n] h Q := by
 apply K147.ok
 unfold K147.wp
 refine K208.c ⟨_, rfl, ?_⟩
 refine xsIf_intro (fun hc => ?_) (fun hc => ?_) <;> simp at hc
 ·rw [if_neg (by omega)] at hq; exact hq
 ·rw [if_pos hc] at hq; exact hq
def slotS (s0 s1 n i : Int) : Int := if rightP s0 s1 n ∧ 0 ≤ i ∧ i < n then (if s1 ≤ (i + s0) % n then (i + s0) % n + 1 else (i + s0) % n) else -1
theorem K213.c {s0 s1 s2 n i r : Int} {h : Heap} {Q : QT} (hr : slotS s0 s1 n i = r) (hq : Q (.int .i64 r) h) :
  CT 213 #[.agg #[.int .i64 s0, .int .i64 s1, .int .u32 s2], .int .i64 n, .int .i64 i] h Q := by
 apply K213.ok
 unfold K213.wp
 refine K156.c ⟨_, rfl, ?_⟩
 subst hr
 unfold slotS at hq
 refine xsIf_intro (fun hc => ?_) (fun hc => ?_)
 ·simp at hc
  rw [if_neg (fun h => hc h.1)] at hq
  exact hq
 ·simp at hc
  have hc' := hc
  unfold rightP at hc'
  refine xsIf_intro (fun h1 => ?_) (fun h1 => xsIf_intro (fun h2 => ?_) (fun h2 => ?_))
  ·simp at h1; rw [if_neg (by omega)] at hq; exact hq
  ·simp at h2; rw [if_neg (by omega)] at hq; exact hq
  ·simp at h1 h2
   rw [if_pos ⟨hc, by omega, by omega⟩] at hq
   apply K213.J3.ok
   unfold K213.J3.wp irem
   rw [i64_in _ (by omega), rem_in _ _ (by omega)]
   have hm := Int.emod_lt_of_pos (i + s0) (show 0 < n by omega)
   have hm0 := Int.emod_nonneg (i + s0) (show n ≠ 0 by omega)
   rw [i64_in ((i + s0) % n + 1) (by omega)]
   refine ⟨by omega, xsIf_intro (fun h3 => ?_) (fun h3 => ?_)⟩ <;> simp at h3
   ·rw [if_pos h3] at hq; exact hq
   ·rw [if_neg (by omega)] at hq; exact hq
theorem K116.c {s0 s1 n : Int} {h : Heap} {Q : QT} (hq : Q (.bool (decide (rightP s0 s1 n))) h) :
  CT 116 #[.int .i64 s0, .int .i64 s1, .int .i64 n] h Q := by
 have hq' : ∀ b, (b = true ↔ rightP s0 s1 n) → Q (.bool b) h := fun b hb => by
  rw [show b = decide (rightP s0 s1 n) by rw [Bool.eq_iff_iff]; simpa using hb]; exact hq
 apply K116.ok
 unfold K116.wp
 repeat' refine xsIf_intro (fun hc => ?_) (fun hc => ?_)
 all_goals
  apply hq'
  unfold rightP
  simp at *
  omega
theorem K230.c {a b m n u v t w z : Int} {h : Heap} {Q : QT} (hp : rightP a b n) (hr : nextS a b m n = (u, v, t, w, z))
  (hq : Q (.tuple #[.int .i64 u, .int .i64 v, .int .i64 w, .int .i64 z]) h) :
  CT 230 #[.int .i64 a, .int .i64 b, .int .i64 n] h Q := by
 apply K230.ok
 unfold K230.wp
 unfold nextS at hr
 rw [if_pos hp] at hr
 unfold rightP at hp
 refine xsIf_intro (fun h1 => ?_) (fun h1 => ?_) <;> simp at h1
 ·rw [if_pos h1] at hr
  cases hr
  rw [i64_in _ (by omega)]
  exact hq
 ·rw [if_neg (by omega)] at hr
  cases hr
  rw [i64_in _ (by omega)]
  refine xsIf_intro (fun h2 => ?_) (fun h2 => ?_) <;> simp at h2
  ·rw [h2, Int.emod_self] at hq
   exact hq
  ·rw [Int.emod_eq_of_lt (by omega) (by omega)] at hq
   exact hq
end Go.Gb
namespace Go.Gb
open Go.Proofs IntWalk
theorem emod_two {x n : Int} (h0 : 0 ≤ x) (h1 : x < 2 * n) (hn : 0 < n) : x % n = if x < n then x else x - n := by
 split
 ·exact Int.emod_eq_of_lt h0 (by omega)
 ·rw [← Int.sub_emod_right, Int.emod_eq_of_lt (by omega) (by omega)]
def lineE (s0 s1 n p : Int) : Int := if p = s1 then -1 else if s0 ≤ (if s1 < p then p - 1 else p) then (if s1 < p then p - 1 else p) - s0 else (if s1 < p then p - 1 else p) - s0 + n
def slotE (s0 s1 n i : Int) : Int := if s1 ≤ (if i + s0 < n then i + s0 else i + s0 - n) then (if i + s0 < n then i + s0 else i + s0 - n) + 1 else (if i + s0 < n then i + s0 else i + s0 - n)
theorem slotS_eq {s0 s1 n i : Int} (hp : rightP s0 s1 n) (h0 : 0 ≤ i) (h1 : i < n) : slotS s0 s1 n i = slotE s0 s1 n i := by
 have hp' := hp
 unfold rightP at hp'
 unfold slotS slotE
 rw [if_pos ⟨hp, h0, h1⟩, emod_two (by omega) (by omega) (by omega)]
theorem lineE_slotE {s0 s1 n i : Int} (hp : rightP s0 s1 n) (h0 : 0 ≤ i) (h1 : i < n) : lineE s0 s1 n (slotE s0 s1 n i) = i ∧ 0 ≤ slotE s0 s1 n i ∧ slotE s0 s1 n i ≤ n ∧ slotE s0 s1 n i ≠ s1 := by
 unfold rightP at hp
 unfold lineE slotE
 (repeat' split) <;> omega
theorem slotE_lineE {s0 s1 n p : Int} (hp : rightP s0 s1 n) (h0 : 0 ≤ p) (h1 : p ≤ n) (h2 : p ≠ s1) : slotE s0 s1 n (lineE s0 s1 n p) = p ∧ 0 ≤ lineE s0 s1 n p ∧ lineE s0 s1 n p < n := by
 unfold rightP at hp
 unfold lineE slotE
 (repeat' split) <;> omega
def linesL (s0 s1 : Int) (N : Nat) : List Int := (List.range (N + 1)).map fun (p : Nat) => lineE s0 s1 N p
theorem linesL_get {s0 s1 : Int} {N p : Nat} (hp : p ≤ N) : (linesL s0 s1 N)[p]? = some (lineE s0 s1 N p) := by
 unfold linesL
 rw [List.getElem?_map, List.getElem?_range (by omega)]; rfl
theorem ints3 : cellZero Tryz.prog 3 = [.int .i64 0] ∧ cellBytes Tryz.prog 3 = 8 := ⟨by kernel_rfl, by kernel_rfl⟩
theorem toN (i : Int) (h : 0 ≤ i) : ∃ k : Nat, i = k := ⟨i.toNat, by omega⟩
theorem K231.L4.c {h0 : Heap} {Q : QT} {s0 s1 : Int} {N : Nat} {a : Option Addr} {c : Nat} (hp : rightP s0 s1 N)
  (hq : ∀ h', Own h0 h' 3 1 a (N + 1) c ((linesL s0 s1 N).map (Value.int .i64)) → Q (.slice a (N + 1) c) h') : ∀ (j : Nat) (i : Nat) (h : Heap) (vs : List Value), i + j = N →
  Own h0 h 3 1 a (N + 1) c vs → (∀ p : Nat, p ≤ N → vs[p]? = some (.int .i64 (if (p : Int) = s1 then -1 else if lineE s0 s1 N p < i then lineE s0 s1 N p else 0))) →
  K231.L4 s0 s1 N a (N + 1) c i h Q := by
 have hp' := hp
 unfold rightP at hp'
 intro j
 induction j with
 | zero =>
  intro i h vs hi w hv
  apply K231.L4.ok
  refine xsIf_f (by simp; omega) ?_
  apply hq
  have e : vs = (linesL s0 s1 N).map (Value.int .i64) := by
   apply List.ext_getElem?
   intro p
   by_cases hpn : p ≤ N
   ·rw [hv p hpn, List.getElem?_map, linesL_get hpn]
    by_cases hps : (p : Int) = s1
    ·rw [if_pos hps]; unfold lineE; rw [if_pos hps]; rfl
    ·rw [if_neg hps, if_pos]; rfl
     have := slotE_lineE hp (p := p) (by omega) (by omega) hps
     omega
   ·rw [List.getElem?_eq_none (by rw [w.len]; omega), List.getElem?_eq_none (by simp [linesL]; omega)]
  rw [← e]; exact w
 | succ j ih =>
  intro i h vs hi w hv
  apply K231.L4.ok
  refine xsIf_t (by simp; omega) ⟨by omega, ?_⟩
  have hls := lineE_slotE hp (i := i) (by omega) (by omega)
  have next : ∀ p : Nat, (p : Int) = slotE s0 s1 N i → atBase a fun b o => h.can b (o + ((p : Nat) : Int).toNat * 1) 1 ∧ K231.L4 s0 s1 N a (N + 1) c (IntKind.i64.wrap (i + 1)) (h.put b (o + ((p : Nat) : Int).toNat * 1) [.int .i64 i]) Q := by
   intro p hpe
   refine w.base (by omega) fun b _ hcan hput => ?_
   rw [Int.toNat_natCast]
   refine ⟨hcan p (by omega), ?_⟩
   rw [i64_in _ (by omega)]
   refine ih (i + 1) _ _ (by omega) (hput p _ (by omega)) ?_
   intro q hqn
   rw [List.getElem?_set]
   by_cases e : p = q
   ·subst e
    rw [if_pos rfl, if_pos (by rw [w.len]; omega), if_neg (by omega), hpe, hls.1, if_pos (by omega)]
   ·rw [if_neg e, hv q hqn]
    by_cases hqs : (q : Int) = s1
    ·rw [if_pos hqs, if_pos hqs]
    ·rw [if_neg hqs, if_neg hqs]
     have hsl := slotE_lineE hp (p := q) (by omega) (by omega) hqs
     have hne : lineE s0 s1 N q ≠ i := fun e2 => e (by rw [e2] at hsl; omega)
     by_cases hlt : lineE s0 s1 N q < i
     ·rw [if_pos hlt, if_pos (by omega)]
     ·rw [if_neg hlt, if_neg (by omega)]
  rw [i64_in ((i : Int) + s0) (by omega), irem_pos (by omega), emod_two (by omega) (by omega) (by omega)]
  unfold slotE at next hls
  generalize hqq : (if (i : Int) + s0 < N then (i : Int) + s0 else i + s0 - N) = q at *
  have hq0 : 0 ≤ q ∧ q < N := by rw [← hqq]; split <;> omega
  refine xsIf_intro (fun h1 => ?_) (fun h1 => ?_) <;> simp at h1
  ·rw [i64_in (q + 1) (by omega)]
   obtain ⟨p, hpp⟩ := toN (q + 1) (by omega)
   rw [hpp]
   refine ⟨by omega, next p (by rw [if_pos h1]; omega)⟩
  ·obtain ⟨p, hpp⟩ := toN q (by omega)
   rw [hpp] at next h1 ⊢
   refine ⟨by omega, next p (by rw [if_neg (by omega)])⟩
theorem K231.c {s0 s1 : Int} {N : Nat} {h : Heap} {Q : QT} (hp : rightP s0 s1 N)
  (hq : ∀ a c h', Own h h' 3 1 a (N + 1) c ((linesL s0 s1 N).map (Value.int .i64)) → Q (.slice a (N + 1) c) h') : CT 231 #[.int .i64 s0, .int .i64 s1, .int .i64 N] h Q := by
 have hp' := hp
 unfold rightP at hp'
 apply K231.ok
 unfold K231.wp
 rw [i64_in ((N : Int) + 1) (by omega)]
 refine Own.make (h0 := h) (Part.refl h) ints3.1 (by omega) (by rw [ints3.2]; omega) (by omega) ?_
 intro a h' w
 rw [show ((N : Int) + 1).toNat = N + 1 by omega] at w ⊢
 refine ⟨by omega, ?_⟩
 obtain ⟨g, rfl⟩ := toN s1 (by omega)
 refine w.base (by omega) fun b _ hcan hput => ?_
 rw [Int.toNat_natCast]
 refine ⟨hcan g (by omega), ?_⟩
 refine K231.L4.c hp (fun h'' w' => hq _ _ _ w') N 0 _ _ (by omega) (hput g _ (by omega)) ?_
 intro p hpn
 rw [List.getElem?_set]
 by_cases e : g = p
 ·subst e
  rw [if_pos rfl, if_pos (by simp; omega), if_pos rfl]
 ·rw [if_neg e, if_neg (by omega), List.getElem?_replicate, if_pos (by omega), if_neg]
  have := slotE_lineE hp (p := p) (by omega) (by omega) (by omega)
  omega
end Go.Gb
namespace Go.Gb
open Go.Proofs IntWalk
theorem nextS_move {s0 s1 s2 : Int} {N : Nat} (hp : rightP s0 s1 N) : ∃ t0 t1, nextS s0 s1 s2 N = (t0, t1, IntKind.u32.wrap (s2 + 1), t1, s1) ∧ rightP t0 t1 N ∧ t1 ≠ s1 ∧
  (∀ p : Int, 0 ≤ p → p ≤ N → lineE t0 t1 N p = if p = t1 then -1 else if p = s1 then lineE s0 s1 N t1 else lineE s0 s1 N p) ∧
  (0 < s1 → t1 = s1 - 1 ∧ t0 = s0) ∧ (s1 = 0 → t1 = N ∧ t0 = (s0 + 1) % N) := by
 have hp' := hp
 unfold rightP at hp'
 unfold nextS
 rw [if_pos hp]
 by_cases h : 0 < s1
 ·rw [if_pos h]
  refine ⟨s0, s1 - 1, rfl, ⟨by omega, by omega, by omega, by omega, by omega, by omega⟩, by omega, ?_, fun _ => ⟨rfl, rfl⟩, fun e => by omega⟩
  intro p h0 h1
  unfold lineE
  (repeat' split) <;> omega
 ·rw [if_neg h]
  have hs1 : s1 = 0 := by omega
  subst hs1
  rw [emod_two (by omega) (by omega) (by omega)]
  refine ⟨_, N, rfl, ⟨by omega, by omega, by split <;> omega, by split <;> omega, by omega, by omega⟩, by omega, ?_, fun e => by omega, fun _ => ⟨rfl, rfl⟩⟩
  intro p h0 h1
  unfold lineE
  (repeat' split) <;> omega
end Go.Gb
namespace Go.Gb
open Go.Proofs IntWalk
theorem u64_w (x : Int) : IntKind.u64.wrap x = x % 18446744073709551616 := wrapU .u64 rfl x
theorem u32_w (x : Int) : IntKind.u32.wrap x = x % 4294967296 := wrapU .u32 rfl x
theorem u16_w (x : Int) : IntKind.u16.wrap x = x % 65536 := wrapU .u16 rfl x
theorem withN_low {w a n v : Nat} (h : a + n ≤ 64) (hw : w < 2 ^ a) : withN w a n v = w + 2 ^ a * (v % 2 ^ n) := by
 have hw64 : w < 18446744073709551616 := Nat.lt_of_lt_of_le hw (Nat.pow_le_pow_right (n := 2) (by omega) (by omega : a ≤ 64))
 apply Nat.eq_of_testBit_eq
 intro i
 rw [withN_test h hw64, Nat.add_comm w, Nat.testBit_two_pow_mul_add _ hw, Nat.testBit_mod_two_pow]
 by_cases h1 : i < a
 ·rw [if_neg (by omega), if_pos h1]
 ·rw [if_neg h1]
  by_cases h2 : i < a + n
  ·rw [if_pos ⟨by omega, h2⟩]
   have : i - a < n := by omega
   simp [this]
  ·rw [if_neg (by omega)]
   have h3 : ¬ (i - a < n) := by omega
   simp [h3]
   exact Nat.testBit_lt_two_pow (Nat.lt_of_lt_of_le hw (Nat.pow_le_pow_right (n := 2) (by omega) (by omega : a ≤ i)))
def pk (s0 s1 s2 : Int) : Int := s0 % 65536 + 65536 * (s1 % 65536) + 4294967296 * s2
theorem withV_at (w a n v : Nat) (a' n' : Int) (ha : a' = a) (hn : n' = n) (h1 : 1 ≤ n) (h : a + n ≤ 64) : withV w a' n' v = withN w a n v := by
 subst ha hn
 unfold withV
 rw [if_pos ⟨by omega, by omega, by omega, by omega⟩]; simp
theorem fieldV_at (w a n : Nat) (a' n' : Int) (ha : a' = a) (hn : n' = n) (h1 : 1 ≤ n) (h : a + n ≤ 64) : fieldV w a' n' = fieldN w a n := by
 subst ha hn
 unfold fieldV
 rw [if_pos ⟨by omega, by omega, by omega, by omega⟩]; simp
theorem K148.c {s0 s1 s2 : Int} {h : Heap} {Q : QT} (h2 : 0 ≤ s2) (h3 : s2 ≤ 4294967295) (hq : Q (.int .u64 (pk s0 s1 s2)) h) : CT 148 #[.agg #[.int .i64 s0, .int .i64 s1, .int .u32 s2]] h Q := by
 apply K148.ok
 unfold K148.wp
 rw [u64_w, u64_w, u64_w]
 have hb : ∀ x : Int, ∃ n : Nat, x % 18446744073709551616 = n ∧ n < 18446744073709551616 := fun x => ⟨(x % 18446744073709551616).toNat, by omega, by omega⟩
 obtain ⟨A, hA, hA'⟩ := hb s0
 obtain ⟨B, hB, hB'⟩ := hb s1
 obtain ⟨D, hD, hD'⟩ := hb s2
 rw [hA, hB, hD]
 refine K189.c (w := 0) (by omega) hA' ⟨_, rfl, ?_⟩
 rw [withV_at 0 0 16 A 0 16 rfl rfl (by omega) (by omega), withN_low (by omega) (by omega)]
 refine K189.c (by omega) hB' ⟨_, rfl, ?_⟩
 rw [withV_at _ 16 16 B 16 16 rfl rfl (by omega) (by omega), withN_low (by omega) (by omega)]
 refine K189.c (by omega) hD' ⟨_, rfl, ?_⟩
 rw [withV_at _ 32 32 D 32 32 rfl rfl (by omega) (by omega), withN_low (by omega) (by omega)]
 have e : ((0 + 2 ^ 0 * (A % 2 ^ 16) + 2 ^ 16 * (B % 2 ^ 16) + 2 ^ 32 * (D % 2 ^ 32) : Nat) : Int) = pk s0 s1 s2 := by
  unfold pk; omega
 rw [e]; exact hq
theorem K172.c {s0 s1 m : Int} {h : Heap} {Q : QT} (h2 : 0 ≤ m) (h3 : m ≤ 4294967295) (hq : Q (.int .u64 (pk s0 s1 m)) h) : CT 172 #[.int .i64 s0, .int .i64 s1, .int .u64 m] h Q := by
 apply K172.ok
 unfold K172.wp
 simp only [u64_w, u16_w]
 have e : ((m * 4294967296 % 18446744073709551616 + s1 % 65536 % 18446744073709551616 * 65536 % 18446744073709551616) % 18446744073709551616 + s0 % 65536 % 18446744073709551616) % 18446744073709551616 = pk s0 s1 m := by
  unfold pk; omega
 rw [e]; exact hq
theorem K155.c {w : Nat} {h : Heap} {Q : QT} (hw : w < 18446744073709551616) (hq : Q (.agg #[.int .i64 (w % 65536 : Nat), .int .i64 (w / 65536 % 65536 : Nat), .int .u32 (w / 4294967296 : Nat)]) h) : CT 155 #[.int .u64 w] h Q := by
 apply K155.ok
 unfold K155.wp
 refine K157.c hw ⟨_, rfl, ?_⟩
 refine K157.c hw ⟨_, rfl, ?_⟩
 refine K157.c hw ⟨_, rfl, ?_⟩
 rw [fieldV_at w 0 16 0 16 rfl rfl (by omega) (by omega), fieldV_at w 16 16 16 16 rfl rfl (by omega) (by omega), fieldV_at w 32 32 32 32 rfl rfl (by omega) (by omega)]
 have e1 : fieldN w 0 16 = w % 65536 := by unfold fieldN; simp
 have e2 : fieldN w 16 16 = w / 65536 % 65536 := rfl
 have e3 : fieldN w 32 32 = w / 4294967296 := by unfold fieldN; exact Nat.mod_eq_of_lt (by omega)
 rw [e1, e2, e3, i64_in _ (by omega), i64_in _ (by omega), u32_in _ (by omega)]
 exact hq
end Go.Gb
namespace Go.Gb
open Go.Proofs IntWalk
def permV (m h a b c d : Nat) : Value := .agg #[.int .i64 m, .int .i64 h, .int .u16 a, .int .u16 b, .int .u16 c, .int .u16 d]
theorem pow_le7 {h : Nat} (h7 : h ≤ 7) : 2 ^ h ≤ 128 ∧ 1 ≤ 2 ^ h := ⟨(Nat.pow_le_pow_right (by omega) h7 : 2 ^ h ≤ 2 ^ 7), Nat.two_pow_pos h⟩
theorem K244.c {m hh a b c d : Nat} {h : Heap} {Q : QT} (h7 : hh ≤ 7) (hq : Q (.int .i64 (2 ^ hh - 1 : Nat)) h) : CT 244 #[permV m hh a b c d] h Q := by
 apply K244.ok
 unfold K244.wp
 have := pow_le7 h7
 rw [show (1 : Int) = ((1 : Nat) : Int) from rfl, ishl_i64 (by omega) (by omega), Nat.one_mul, i64_in _ (by omega)]
 refine ⟨by omega, ?_⟩
 have e : ((2 ^ hh : Nat) : Int) - ((1 : Nat) : Int) = ((2 ^ hh - 1 : Nat) : Int) := by omega
 rw [e]; exact hq
theorem u16_wm (x : Int) : IntKind.u16.wrap x = x % 65536 := wrapU .u16 rfl x
theorem K245.c {m hh a b c d x k : Nat} {h : Heap} {Q : QT} (h7 : hh ≤ 7) (hx : x < 2 ^ hh) (hk : k < 65536) (hq : Q (.int .i64 (mixN hh x k)) h) : CT 245 #[permV m hh a b c d, .int .i64 x, .int .u16 k] h Q := by
 apply K245.ok
 unfold K245.wp
 refine K244.c h7 ⟨_, rfl, ?_⟩
 have hp := pow_le7 h7
 have e : IntKind.u16.wrap (IntKind.u16.wrap (IntKind.u16.wrap (IntKind.u16.wrap (x : Int) * 40503) + IntKind.u16.wrap ((k : Int) * 52711)) + 12289) = ((yN x k : Nat) : Int) := by
  simp only [u16_wm]
  unfold yN
  omega
 have hy : yN x k < 65536 := Nat.mod_lt _ (by omega)
 have hz : yN x k ^^^ yN x k / 128 < 65536 := Nat.xor_lt_two_pow (n := 16) hy (Nat.lt_of_le_of_lt (Nat.div_le_self _ _) hy)
 rw [e, show (7 : Int) = ((7 : Nat) : Int) from rfl, ishr_u16 (by omega), show (2 : Nat) ^ 7 = 128 from rfl, ixor_u16 hy (Nat.lt_of_le_of_lt (Nat.div_le_self _ _) hy), i64_in _ (by omega), iand_i64 (by omega) (by omega), Nat.and_two_pow_sub_one_eq_mod]
 exact hq
theorem turn_step {m hh a b c d l r k : Nat} {t0 t1 t2 t3 : Int} {j : Nat} {h : Heap} {Q : QT} (h7 : hh ≤ 7) (hl : l < 2 ^ hh) (hr : r < 2 ^ hh) (hk : k < 65536) (hj : j < 4)
  (hg : lget [.int .u16 t0, .int .u16 t1, .int .u16 t2, .int .u16 t3] j = some (.int .u16 k))
  (hq : K211.L3 (rnd hh k (l, r)).1 (rnd hh k (l, r)).2 t0 t1 t2 t3 ((j + 1 : Nat) : Int) m hh a b c d h Q) : K211.L3 l r t0 t1 t2 t3 (j : Int) m hh a b c d h Q := by
 apply K211.L3.ok
 unfold K211.L3.wp
 have hp := pow_le7 h7
 refine xsIf_t (by simp; omega) ⟨by omega, k, by rw [Int.toNat_natCast, Nat.mul_one]; exact hg, ?_⟩
 refine K245.c h7 hr hk ⟨_, rfl, ?_⟩
 have := mixN_lt hh r k
 rw [ixor_i64 (by omega) (by omega), i64_in _ (by omega)]
 exact hq
theorem K211.c {m hh a b c d n : Nat} {h : Heap} {Q : QT} (h7 : hh ≤ 7) (ha : a < 65536) (hb : b < 65536) (hc : c < 65536) (hd : d < 65536) (hn : n < 2 ^ hh * 2 ^ hh) (hq : Q (.int .i64 (turnN hh a b c d n)) h) :
  CT 211 #[permV m hh a b c d, .int .i64 n] h Q := by
 apply K211.ok
 unfold K211.wp
 have hp := pow_le7 h7
 have hpp : 2 ^ hh * 2 ^ hh ≤ 128 * 128 := Nat.mul_le_mul hp.1 hp.1
 refine ⟨by omega, K244.c h7 ⟨_, rfl, ?_⟩⟩
 rw [ishr_i64 (by omega), iand_i64 (by omega) (by omega), Nat.and_two_pow_sub_one_eq_mod]
 have i0 : InP hh (dec hh n) := dec_in hn
 have i1 := rnd_in (k := a) i0
 have i2 := rnd_in (k := b) i1
 have i3 := rnd_in (k := c) i2
 have i4 := rnd_in (k := d) i3
 refine turn_step (j := 0) h7 i0.1 i0.2 ha (by omega) rfl ?_
 refine turn_step (j := 1) h7 i1.1 i1.2 hb (by omega) rfl ?_
 refine turn_step (j := 2) h7 i2.1 i2.2 hc (by omega) rfl ?_
 refine turn_step (j := 3) h7 i3.1 i3.2 hd (by omega) rfl ?_
 apply K211.L3.ok
 unfold K211.L3.wp
 refine xsIf_f (by simp) ⟨by omega, ?_⟩
 have e4 : (rnd hh d ((rnd hh c ((rnd hh b ((rnd hh a (dec hh n)).1, (rnd hh a (dec hh n)).2)).1, (rnd hh b ((rnd hh a (dec hh n)).1, (rnd hh a (dec hh n)).2)).2)).1, (rnd hh c ((rnd hh b ((rnd hh a (dec hh n)).1, (rnd hh a (dec hh n)).2)).1, (rnd hh b ((rnd hh a (dec hh n)).1, (rnd hh a (dec hh n)).2)).2)).2)) = turnP hh a b c d (dec hh n) := rfl
 have hlt : (turnP hh a b c d (dec hh n)).1 * 2 ^ hh ≤ 128 * 128 := Nat.mul_le_mul (by have := i4.1; exact Nat.le_trans (Nat.le_of_lt this) hp.1) hp.1
 have hr := i4.2
 have hq' : Q (.int .i64 (ior .i64 (ishl .i64 (((turnP hh a b c d (dec hh n)).1 : Nat) : Int) hh) (((turnP hh a b c d (dec hh n)).2 : Nat) : Int))) h := by
  have hr' : (turnP hh a b c d (dec hh n)).2 < 2 ^ hh := i4.2
  rw [ishl_i64 (by omega) (by omega), ior_i64 (by omega) (by omega), Nat.mul_comm, ← Nat.two_pow_add_eq_or_of_lt hr']
  have e : 2 ^ hh * (turnP hh a b c d (dec hh n)).1 + (turnP hh a b c d (dec hh n)).2 = turnN hh a b c d n := by unfold turnN enc; rw [Nat.mul_comm]
  rw [e]; exact hq
 exact hq'
def permL (m h a b c d : Nat) : List Value := [.int .i64 m, .int .i64 h, .int .u16 a, .int .u16 b, .int .u16 c, .int .u16 d]
theorem K210.L4.c {f : Nat → Nat} {step m hh a b c d k M : Nat} {sa : Array Value} {h : Heap} {Q : QT} (hgo : goOk Tryz.prog step = true) (hk : k < m)
  (hs : ∀ n Q, n < M → Q (Value.int .i64 (f n)) h → CT step (sa.toList ++ [Value.int .i64 n] ++ (#[] : Array Value).toList).toArray h Q) (hf : ∀ n, n < M → f n < M)
  (hq : Q (.int .i64 k) h) : ∀ (J i : Nat), i < M → iter f J i = k → (∀ t, t < J → m ≤ iter f t i) →
  K210.L4 i step sa #[] m hh a b c d h Q := by
 intro J
 induction J with
 | zero =>
  intro i hi e hl
  apply K210.L4.ok
  have : i = k := e
  subst this
  exact xsIf_f (by simp; omega) hq
 | succ J ih =>
  intro i hi e hl
  apply K210.L4.ok
  have h0 : m ≤ i := hl 0 (by omega)
  refine xsIf_t (by simp; omega) (xsIf_t hgo (hs i _ hi ⟨_, rfl, ?_⟩))
  exact ih (f i) (hf i hi) e fun t ht => hl (t + 1) (by omega)
theorem walk_in {f : Nat → Nat} {step m hh a b c d i k M : Nat} {sa : Array Value} {h : Heap} {Q : QT} (hgo : goOk Tryz.prog step = true)
  (hs : ∀ n Q, n < M → Q (Value.int .i64 (f n)) h → CT step (sa.toList ++ [Value.int .i64 n] ++ (#[] : Array Value).toList).toArray h Q) (hf : ∀ n, n < M → f n < M) (hm : m ≤ M) (hi : i < m)
  (hg : Goes f m i k) (hq : Q (.int .i64 k) h) :
  CT 210 #[permV m hh a b c d, .int .i64 i, .func (.func step) sa #[]] h Q := by
 obtain ⟨hk, J, e, hl⟩ := hg
 apply K210.ok
 unfold K210.wp
 refine xsIf_f (by simp) (xsIf_f (by simp; omega) (xsIf_t hgo (hs i _ (by omega) ⟨_, rfl, ?_⟩)))
 exact K210.L4.c hgo hk hs hf hq J (f i) (hf i (by omega)) e fun t ht => hl t ht
theorem go50 : goOk Tryz.prog 211 = true := by kernel_rfl
structure Perm (m hh a b c d : Nat) : Prop where
 h7 : hh ≤ 7
 fit : m ≤ 2 ^ hh * 2 ^ hh
 ka : a < 65536
 kb : b < 65536
 kc : c < 65536
 kd : d < 65536
theorem K158.c {m hh a b c d i k : Nat} {h : Heap} {Q : QT} (p : Perm m hh a b c d) (hi : i < m) (hg : Goes (turnN hh a b c d) m i k) (hq : Q (.int .i64 k) h) : CT 158 #[permV m hh a b c d, .int .i64 i] h Q := by
 apply K158.ok
 exact walk_in (f := turnN hh a b c d) (M := 2 ^ hh * 2 ^ hh) go50 (fun n Q hn hq => K211.c p.h7 p.ka p.kb p.kc p.kd hn hq) (turn_perm hh a b c d).lt p.fit hi hg ⟨_, rfl, hq⟩
end Go.Gb
namespace Go.Gb
open Go.Proofs IntWalk
theorem halfN_at {m : Nat} : (halfN m = 1 ∧ m ≤ 4) ∨ (halfN m = 2 ∧ 4 < m ∧ m ≤ 16) ∨ (halfN m = 3 ∧ 16 < m ∧ m ≤ 64) ∨ (halfN m = 4 ∧ 64 < m ∧ m ≤ 256) ∨ (halfN m = 5 ∧ 256 < m ∧ m ≤ 1024) ∨ (halfN m = 6 ∧ 1024 < m ∧ m ≤ 4096) ∨ (halfN m = 7 ∧ 4096 < m) := by
 unfold halfN
 (repeat' split) <;> omega
theorem half_step {m x : Nat} (hm : m ≤ 8192) (h1 : 1 ≤ x) (h2 : x ≤ halfN m) : (2 ^ (2 * x) < m ↔ x < halfN m) := by
 have hv := halfN_at (m := m)
 have hx : (x = 1 ∧ 2 ^ (2 * x) = 4) ∨ (x = 2 ∧ 2 ^ (2 * x) = 16) ∨ (x = 3 ∧ 2 ^ (2 * x) = 64) ∨ (x = 4 ∧ 2 ^ (2 * x) = 256) ∨ (x = 5 ∧ 2 ^ (2 * x) = 1024) ∨ (x = 6 ∧ 2 ^ (2 * x) = 4096) ∨ (x = 7 ∧ 2 ^ (2 * x) = 16384) := by
  have : x = 1 ∨ x = 2 ∨ x = 3 ∨ x = 4 ∨ x = 5 ∨ x = 6 ∨ x = 7 := by omega
  rcases this with rfl | rfl | rfl | rfl | rfl | rfl | rfl <;> simp
 generalize 2 ^ (2 * x) = z at hx ⊢
 generalize halfN m = w at *
 omega
theorem keyN_lt (key j : Nat) : keyN key j < 65536 := Nat.mod_lt _ (by omega)
theorem key_field {key j : Nat} (hj : j < 4) : IntKind.u16.wrap ((fieldV key ((16 * j : Nat) : Int) 16 : Nat) : Int) = (keyN key j : Nat) := by
 have e : fieldV key ((16 * j : Nat) : Int) 16 = keyN key j := by
  unfold fieldV
  rw [if_pos ⟨by omega, by omega, by omega, by omega⟩]
  simp only [Int.toNat_natCast]
  rfl
 rw [e, u16_nat' (keyN_lt key j)]
theorem new_key {key j : Nat} {p : List Value} {t0 t1 t2 t3 t4 t5 : Int} {h : Heap} {Q : QT} (hk : key < 18446744073709551616) (hj : j < 4) (hl : p.length = 6)
  (hq : K83.L7 key ((j + 1 : Nat) : Int) t0 t1 t2 t3 t4 t5 (lput p (2 + j) [.int .u16 (keyN key j : Nat)]) h Q) : K83.L7 key (j : Int) t0 t1 t2 t3 t4 t5 p h Q := by
 apply K83.L7.ok
 unfold K83.L7.wp
 refine xsIf_t (by simp; omega) ?_
 rw [show (16 : Int) * (j : Int) = ((16 * j : Nat) : Int) by omega, i64_in _ (by omega)]
 refine K157.c hk ⟨_, rfl, by omega, by omega, ?_⟩
 rw [key_field hj, Int.toNat_natCast, Nat.mul_one, i64_in _ (by omega)]
 exact hq
def newV (m key : Nat) : Value := permV m (halfN m) (keyN key 0) (keyN key 1) (keyN key 2) (keyN key 3)
theorem new_perm {m : Nat} (key : Nat) (hm : m ≤ 8192) : Perm m (halfN m) (keyN key 0) (keyN key 1) (keyN key 2) (keyN key 3) :=
 ⟨(halfN_le hm).2.1, (halfN_le hm).2.2, keyN_lt key 0, keyN_lt key 1, keyN_lt key 2, keyN_lt key 3⟩
theorem K83.L4.c {m key : Nat} {t0 t1 t2 t3 t4 t5 : Int} {h : Heap} {Q : QT} (hm : m ≤ 8192) (hk : key < 18446744073709551616) (hq : Q (.tuple #[newV m key, .int .i64 0]) h) :
  ∀ (j x : Nat), 1 ≤ x → x + j = halfN m → K83.L4 m key t0 t1 t2 t3 t4 t5 (permL m x 0 0 0 0) h Q := by
 have h7 := (halfN_le hm).2.1
 intro j
 induction j with
 | zero =>
  intro x h1 hx
  have hs := half_step hm h1 (by omega)
  apply K83.L4.ok
  refine ⟨x, rfl, ?_⟩
  rw [show (2 : Int) * (x : Int) = ((2 * x : Nat) : Int) by omega, i64_in _ (by omega)]
  have hp : 2 ^ (2 * x) ≤ 2 ^ 14 := Nat.pow_le_pow_right (by omega) (by omega)
  rw [show (1 : Int) = ((1 : Nat) : Int) from rfl, ishl_i64 (by omega) (by omega), Nat.one_mul]
  refine ⟨by omega, xsIf_f (by simp only [decide_eq_false_iff_not]; omega) ?_⟩
  apply K83.J6.ok
  have hxh : x = halfN m := by omega
  subst hxh
  refine new_key (j := 0) hk (by omega) rfl ?_
  refine new_key (j := 1) hk (by omega) rfl ?_
  refine new_key (j := 2) hk (by omega) rfl ?_
  refine new_key (j := 3) hk (by omega) rfl ?_
  apply K83.L7.ok
  refine xsIf_f (by simp) ⟨Nat.le_refl 6, _, rfl, _, rfl, _, rfl, _, rfl, _, rfl, _, rfl, hq⟩
 | succ j ih =>
  intro x h1 hx
  have hs := half_step hm h1 (by omega)
  apply K83.L4.ok
  refine ⟨x, rfl, ?_⟩
  rw [show (2 : Int) * (x : Int) = ((2 * x : Nat) : Int) by omega, i64_in _ (by omega)]
  have hp : 2 ^ (2 * x) ≤ 2 ^ 14 := Nat.pow_le_pow_right (by omega) (by omega)
  rw [show (1 : Int) = ((1 : Nat) : Int) from rfl, ishl_i64 (by omega) (by omega), Nat.one_mul]
  refine ⟨by omega, xsIf_t (by simp only [decide_eq_true_eq]; omega) ⟨x, rfl, (by show 2 ≤ 6; omega), ?_⟩⟩
  rw [i64_in _ (by omega)]
  exact ih (x + 1) (by omega) (by omega)
theorem K83.c {m key : Nat} {h : Heap} {Q : QT} (h1 : 1 ≤ m) (hm : m ≤ 8192) (hk : key < 18446744073709551616) (hq : Q (.tuple #[newV m key, .int .i64 0]) h) : CT 83 #[.int .i64 m, .int .u64 key] h Q := by
 apply K83.ok
 unfold K83.wp
 refine xsIf_f (by simp; omega) (xsIf_f (by simp; omega) ?_)
 apply K83.J3.ok
 refine ⟨Nat.le_refl 6, ?_⟩
 exact K83.L4.c hm hk hq (halfN m - 1) 1 (Nat.le_refl 1) (by have := (halfN_le hm).1; omega)
end Go.Gb
namespace Go.Gb
open Go.Proofs IntWalk
theorem new_goes {m : Nat} (key : Nat) (hm : m ≤ 8192) {i : Nat} (hi : i < m) : ∃ k, Goes (turnN (halfN m) (keyN key 0) (keyN key 1) (keyN key 2) (keyN key 3)) m i k :=
 (turn_perm _ _ _ _ _).goes (new_perm key hm).fit hi
end Go.Gb
namespace Go.Gb
open Go.Proofs IntWalk
theorem K252.c {n : Nat} {h : Heap} {Q : QT} (hn : n ≤ 7) (hq : Q (.int .i64 (2 ^ n : Nat)) h) : CT 252 #[.int .i64 n] h Q := by
 apply K252.ok
 unfold K252.wp
 have loop : ∀ j i : Nat, i + j = n → K252.L3 n (2 ^ i : Nat) i h Q := by
  intro j
  induction j with
  | zero =>
   intro i hi
   apply K252.L3.ok
   refine xsIf_f (by simp; omega) ?_
   have : i = n := by omega
   rw [this]; exact hq
  | succ j ih =>
   intro i hi
   apply K252.L3.ok
   refine xsIf_t (by simp; omega) ?_
   have hp : 2 ^ i ≤ 2 ^ 7 := Nat.pow_le_pow_right (by omega) (by omega)
   have := ih (i + 1) (by omega)
   rw [Nat.pow_succ] at this
   generalize 2 ^ i = z at hp this ⊢
   rw [i64_in _ (by omega), i64_in _ (by omega), show (2 : Int) * (z : Int) = ((z * 2 : Nat) : Int) by omega]
   exact this
 exact loop n 0 (by omega)
theorem xor_step (a b : Nat) : (a ^^^ b) = 2 * (a / 2 ^^^ b / 2) + (if a % 2 = b % 2 then 0 else 1) := by
 apply Nat.eq_of_testBit_eq
 intro i
 cases i with
 | zero =>
  rw [Nat.testBit_xor]
  simp only [Nat.testBit_zero]
  rcases Nat.mod_two_eq_zero_or_one a with h1 | h1 <;> rcases Nat.mod_two_eq_zero_or_one b with h2 | h2 <;> simp [h1, h2]
 | succ i =>
  rw [Nat.testBit_xor, Nat.testBit_succ, Nat.testBit_succ, Nat.testBit_succ]
  have : (2 * (a / 2 ^^^ b / 2) + (if a % 2 = b % 2 then 0 else 1)) / 2 = a / 2 ^^^ b / 2 := by split <;> omega
  rw [this, Nat.testBit_xor]
theorem K254.c {a b : Nat} {h : Heap} {Q : QT} (ha : a < 65536) (hb : b < 65536) (hq : Q (.int .i64 (a ^^^ b : Nat)) h) : CT 254 #[.int .i64 a, .int .i64 b] h Q := by
 apply K254.ok
 unfold K254.wp
 have fin : ∀ n m : Nat, n + m * (0 ^^^ 0) = (a ^^^ b) → Q (.int .i64 n) h := fun n m e => by
  rw [Nat.xor_self, Nat.mul_zero, Nat.add_zero] at e
  rw [e]; exact hq
 have loop : ∀ (j a' b' n m : Nat), a' < 2 ^ j → b' < 2 ^ j → j ≤ 16 → m ≤ 65536 → m * 2 ^ j ≤ 65536 → n < m → n + m * (a' ^^^ b') = (a ^^^ b) → K254.L3 a' b' n m h Q := by
  intro j
  induction j with
  | zero =>
   intro a' b' n m h1 h2 _ _ hm hn he
   apply K254.L3.ok
   have e1 : a' = 0 := by omega
   have e2 : b' = 0 := by omega
   subst e1; subst e2
   exact xsIf_f (by simp) (xsIf_f (by simp) (fin n m he))
  | succ j ih =>
   intro a' b' n m h1 h2 hj16 hm1 hm hn he
   have hle : 2 ^ (j + 1) ≤ 2 ^ 16 := Nat.pow_le_pow_right (by omega) hj16
   rw [Nat.pow_succ] at h1 h2 hm hle
   have hm' : m * 2 * 2 ^ j ≤ 65536 := by rw [Nat.mul_assoc, Nat.mul_comm 2]; exact hm
   have hj := Nat.two_pow_pos j
   have hmm : m * 2 ≤ 65536 := Nat.le_trans (Nat.le_mul_of_pos_right _ hj) hm'
   have step : K254.J4 a' b' n m h Q := by
    apply K254.J4.ok
    unfold K254.J4.wp
    have hx := xor_step a' b'
    generalize hz : 2 ^ j = z at h1 h2 hm hle hm' hj
    have ea : iquo .i64 (a' : Int) 2 = ((a' / 2 : Nat) : Int) := by rw [iquo_i64 (by omega) (by omega) (by omega)]; rfl
    have eb : iquo .i64 (b' : Int) 2 = ((b' / 2 : Nat) : Int) := by rw [iquo_i64 (by omega) (by omega) (by omega)]; rfl
    have ra : irem (a' : Int) 2 = ((a' % 2 : Nat) : Int) := irem_nat a' 2
    have rb : irem (b' : Int) 2 = ((b' % 2 : Nat) : Int) := irem_nat b' 2
    rw [ea, eb, ra, rb, i64_in ((n : Int) + m) (by omega), i64_in (2 * (m : Int)) (by omega), show (n : Int) + m = ((n + m : Nat) : Int) by omega, show 2 * (m : Int) = ((2 * m : Nat) : Int) by omega]
    refine xsIf_intro (fun h3 => ?_) (fun h3 => ?_)
    ·simp at h3
     refine ih (a' / 2) (b' / 2) (n + m) (2 * m) (by omega) (by omega) (by omega) (by omega) (by rw [hz, Nat.mul_comm 2]; exact hm') (by omega) ?_
     rw [← he, hx, if_neg (by omega)]
     generalize (a' / 2 ^^^ b' / 2) = w
     rw [Nat.mul_add, Nat.mul_one, Nat.mul_comm 2 m, Nat.mul_assoc]
     omega
    ·simp at h3
     refine ih (a' / 2) (b' / 2) n (2 * m) (by omega) (by omega) (by omega) (by omega) (by rw [hz, Nat.mul_comm 2]; exact hm') (by omega) ?_
     rw [← he, hx, if_pos (by omega)]
     generalize (a' / 2 ^^^ b' / 2) = w
     rw [Nat.add_zero, Nat.mul_comm 2 m, Nat.mul_assoc]
   apply K254.L3.ok
   refine xsIf_intro (fun _ => step) (fun h3 => xsIf_intro (fun _ => step) (fun h4 => ?_))
   simp at h3 h4
   subst h3; subst h4
   exact fin n m he
 have := loop 16 a b 0 1 ha hb (by omega) (by omega) (by omega) (by omega) (by omega)
 exact this
theorem K253.c {x k hh : Nat} {h : Heap} {Q : QT} (h7 : hh ≤ 7) (hx : x < 2 ^ hh) (hk : k < 65536) (hq : Q (.int .i64 (mixN hh x k)) h) : CT 253 #[.int .i64 x, .int .i64 k, .int .i64 hh] h Q := by
 apply K253.ok
 unfold K253.wp
 have hp := pow_le7 h7
 have ey : irem (IntKind.i64.wrap (IntKind.i64.wrap (IntKind.i64.wrap ((x : Int) * 40503) + IntKind.i64.wrap ((k : Int) * 52711)) + 12289)) 65536 = ((yN x k : Nat) : Int) := by
  rw [i64_in ((x : Int) * 40503) (by omega), i64_in ((k : Int) * 52711) (by omega), i64_in ((x : Int) * 40503 + (k : Int) * 52711) (by omega), i64_in _ (by omega)]
  have e : (x : Int) * 40503 + (k : Int) * 52711 + 12289 = ((x * 40503 + k * 52711 + 12289 : Nat) : Int) := by omega
  rw [e]
  exact irem_nat _ 65536
 have hy : yN x k < 65536 := Nat.mod_lt _ (by omega)
 have ed : iquo .i64 ((yN x k : Nat) : Int) 128 = ((yN x k / 128 : Nat) : Int) := by rw [iquo_i64 (by omega) (by omega) (by omega)]; rfl
 rw [ey, ed]
 refine K254.c hy (by omega) ⟨_, rfl, ?_⟩
 refine K252.c h7 ⟨_, rfl, by omega, ?_⟩
 rw [irem_nat]
 exact hq
theorem K228.c {m : Nat} {h : Heap} {Q : QT} (hm : m ≤ 8192) (hq : Q (.int .i64 (halfN m : Nat)) h) : CT 228 #[.int .i64 m] h Q := by
 apply K228.ok
 unfold K228.wp
 have h7 := halfN_le hm
 have loop : ∀ (j x : Nat), 1 ≤ x → x + j = halfN m → K228.L3 m x (2 ^ (2 * x) : Nat) h Q := by
  intro j
  induction j with
  | zero =>
   intro x h1 hx
   have hs := half_step hm h1 (by omega)
   apply K228.L3.ok
   generalize 2 ^ (2 * x) = z at hs
   refine xsIf_f (by simp; omega) ?_
   rw [show x = halfN m by omega]; exact hq
  | succ j ih =>
   intro x h1 hx
   have hs := half_step hm h1 (by omega)
   have := ih (x + 1) (by omega) (by omega)
   have hp : 2 ^ (2 * x) ≤ 2 ^ 14 := Nat.pow_le_pow_right (by omega) (by omega)
   rw [show 2 * (x + 1) = 2 * x + 2 by omega, Nat.pow_add] at this
   apply K228.L3.ok
   unfold K228.L3.wp
   generalize 2 ^ (2 * x) = z at hs hp this ⊢
   refine xsIf_t (by simp; omega) ?_
   rw [i64_in _ (by omega), i64_in _ (by omega), show (4 : Int) * (z : Int) = ((z * 2 ^ 2 : Nat) : Int) by omega]
   exact this
 exact loop (halfN m - 1) 1 (by omega) (by omega)
theorem ref_step {hh key l r k : Nat} {j : Nat} {h : Heap} {Q : QT} (h7 : hh ≤ 7) (hl : l < 2 ^ hh) (hr : r < 2 ^ hh) (hkey : key < 18446744073709551616) (hk : key % 65536 = k) (hj : j < 4)
  (hq : K229.L5 hh (key / 65536 : Nat) (2 ^ hh : Nat) (rnd hh k (l, r)).1 (rnd hh k (l, r)).2 ((j + 1 : Nat) : Int) h Q) : K229.L5 hh key (2 ^ hh : Nat) l r (j : Int) h Q := by
 apply K229.L5.ok
 unfold K229.L5.wp
 have hp := pow_le7 h7
 have er : irem (key : Int) 65536 = ((key % 65536 : Nat) : Int) := irem_nat key 65536
 have eq : iquo .u64 (key : Int) 65536 = ((key / 65536 : Nat) : Int) := iquo_u64 65536 hkey
 rw [er, eq, hk, i64_in (k : Int) (by omega), i64_in ((j : Int) + 1) (by omega)]
 refine xsIf_t (by simp; omega) ?_
 refine K253.c h7 hr (by omega) ⟨_, rfl, ?_⟩
 have := mixN_lt hh r k
 exact K254.c (by omega) (by omega) ⟨_, rfl, hq⟩
theorem K229.c {n hh key : Nat} {h : Heap} {Q : QT} (h7 : hh ≤ 7) (hkey : key < 18446744073709551616) (hn : n < 2 ^ hh * 2 ^ hh)
  (hq : Q (.int .i64 (turnN hh (keyN key 0) (keyN key 1) (keyN key 2) (keyN key 3) n)) h) : CT 229 #[.int .i64 n, .int .i64 hh, .int .u64 key] h Q := by
 apply K229.ok
 unfold K229.wp
 have hp := pow_le7 h7
 have hpp : 2 ^ hh * 2 ^ hh ≤ 128 * 128 := Nat.mul_le_mul hp.1 hp.1
 refine K252.c h7 ⟨_, rfl, by omega, by omega, ?_⟩
 have e1 : iquo .i64 (n : Int) ((2 ^ hh : Nat) : Int) = ((n / 2 ^ hh : Nat) : Int) := by rw [iquo_i64 (by omega) (by omega) (by omega)]; rfl
 rw [e1, irem_nat]
 have i0 : InP hh (dec hh n) := dec_in hn
 have i1 := rnd_in (k := keyN key 0) i0
 have i2 := rnd_in (k := keyN key 1) i1
 have i3 := rnd_in (k := keyN key 2) i2
 have i4 := rnd_in (k := keyN key 3) i3
 have k0 : key % 65536 = keyN key 0 := by unfold keyN; simp
 have k1 : key / 65536 % 65536 = keyN key 1 := rfl
 have k2 : key / 65536 / 65536 % 65536 = keyN key 2 := by unfold keyN; rw [Nat.div_div_eq_div_mul]
 have k3 : key / 65536 / 65536 / 65536 % 65536 = keyN key 3 := by unfold keyN; rw [Nat.div_div_eq_div_mul, Nat.div_div_eq_div_mul]
 refine ref_step (j := 0) h7 i0.1 i0.2 hkey k0 (by omega) ?_
 refine ref_step (j := 1) h7 i1.1 i1.2 (by omega) k1 (by omega) ?_
 refine ref_step (j := 2) h7 i2.1 i2.2 (by omega) k2 (by omega) ?_
 refine ref_step (j := 3) h7 i3.1 i3.2 (by omega) k3 (by omega) ?_
 apply K229.L5.ok
 unfold K229.L5.wp
 refine xsIf_f (by simp) ?_
 have hlt : (turnP hh (keyN key 0) (keyN key 1) (keyN key 2) (keyN key 3) (dec hh n)).1 * 2 ^ hh ≤ 128 * 128 := Nat.mul_le_mul (by have := i4.1; exact Nat.le_trans (Nat.le_of_lt this) hp.1) hp.1
 have hr' : (turnP hh (keyN key 0) (keyN key 1) (keyN key 2) (keyN key 3) (dec hh n)).2 < 2 ^ hh := i4.2
 have hq' : Q (.int .i64 (IntKind.i64.wrap (IntKind.i64.wrap (((turnP hh (keyN key 0) (keyN key 1) (keyN key 2) (keyN key 3) (dec hh n)).1 : Nat) * ((2 ^ hh : Nat) : Int)) + ((turnP hh (keyN key 0) (keyN key 1) (keyN key 2) (keyN key 3) (dec hh n)).2 : Nat)))) h := by
  have hq2 : Q (.int .i64 (((turnP hh (keyN key 0) (keyN key 1) (keyN key 2) (keyN key 3) (dec hh n)).1 * 2 ^ hh + (turnP hh (keyN key 0) (keyN key 1) (keyN key 2) (keyN key 3) (dec hh n)).2 : Nat) : Int)) h := hq
  generalize turnP hh (keyN key 0) (keyN key 1) (keyN key 2) (keyN key 3) (dec hh n) = q at hlt hr' hq2 ⊢
  rw [← Int.natCast_mul]
  generalize q.1 * 2 ^ hh = z at hlt hq2 ⊢
  rw [i64_in (z : Int) (by omega), ← Int.natCast_add, i64_in _ (by omega)]
  exact hq2
 exact hq'
theorem K177.c {m key i k : Nat} {h : Heap} {Q : QT} (hm : m ≤ 8192) (hkey : key < 18446744073709551616) (hi : i < m) (hg : Goes (turnN (halfN m) (keyN key 0) (keyN key 1) (keyN key 2) (keyN key 3)) m i k) (hq : Q (.int .i64 k) h) :
  CT 177 #[.int .i64 m, .int .u64 key, .int .i64 i] h Q := by
 obtain ⟨hk, J, e, hl⟩ := hg
 have h7 := halfN_le hm
 have P := turn_perm (halfN m) (keyN key 0) (keyN key 1) (keyN key 2) (keyN key 3)
 apply K177.ok
 unfold K177.wp
 refine K228.c hm ⟨_, rfl, ?_⟩
 refine K229.c h7.2.1 hkey (by omega) ⟨_, rfl, ?_⟩
 have loop : ∀ (J x : Nat), x < 2 ^ halfN m * 2 ^ halfN m → iter (turnN (halfN m) (keyN key 0) (keyN key 1) (keyN key 2) (keyN key 3)) J x = k → (∀ t, t < J → m ≤ iter (turnN (halfN m) (keyN key 0) (keyN key 1) (keyN key 2) (keyN key 3)) t x) →
   K177.L3 m key x (halfN m) h Q := by
  intro J
  induction J with
  | zero =>
   intro x hx e hl
   apply K177.L3.ok
   have : x = k := e
   subst this
   exact xsIf_f (by simp; omega) hq
  | succ J ih =>
   intro x hx e hl
   apply K177.L3.ok
   have h0 : m ≤ x := hl 0 (by omega)
   refine xsIf_t (by simp; omega) (K229.c h7.2.1 hkey hx ⟨_, rfl, ?_⟩)
   exact ih _ (P.lt x hx) e fun t ht => hl (t + 1) (by omega)
 exact loop J _ (P.lt i (by omega)) e fun t ht => hl t ht
end Go.Gb
