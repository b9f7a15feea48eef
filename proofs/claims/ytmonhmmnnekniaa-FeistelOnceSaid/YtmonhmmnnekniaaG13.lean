/- Own text for the seat: G13. -/
import Derived.Test.YtmonhmmnnekniaaG12
set_option linter.unusedVariables false
set_option linter.unusedSimpArgs false
set_option linter.unnecessarySimpa false
set_option linter.deprecated false
namespace Go.Gb
open Go.Proofs IntWalk

theorem bools4 : cellZero Try.prog 4 = [.bool false] ∧ cellBytes Try.prog 4 = 1 := ⟨by kernel_rfl, by kernel_rfl⟩

/-- What the slots of `come` say behind i places. -/
def Come (f : Nat → Nat) (m i : Nat) (vs : List Value) : Prop :=
  ∀ k, k < m → ∃ b : Bool, vs[k]? = some (.bool b) ∧ (b = true → ∃ j, j < i ∧ Goes f m j k)

theorem once_loop {m key : Nat} {h0 : Heap} {Q : Value → Heap → Prop} (hm1 : 1 ≤ m) (hm : m ≤ 8192) {a : Option Addr} {c : Nat} (hq : ∀ h, Part h0 h → Q (.bool true) h) : ∀ (j i : Nat) (h : Heap) (vs : List Value), i + j = m →
    Own h0 h 4 1 a m c vs → Come (turnN (halfN m) (keyN key 0) (keyN key 1) (keyN key 2) (keyN key 3)) m i vs →
    gabionlaw08_FeistelOnce.L7 m a m c m i m (halfN m) (keyN key 0) (keyN key 1) (keyN key 2) (keyN key 3) h Q := by
  have P := turn_perm (halfN m) (keyN key 0) (keyN key 1) (keyN key 2) (keyN key 3)
  have fit := (new_perm key hm).fit
  intro j
  induction j with
  | zero =>
    intro i h vs hi w hc
    apply gabionlaw08_FeistelOnce.L7.ok
    exact xsIf_f (by simp; omega) (hq h w.part)
  | succ j ih =>
    intro i h vs hi w hc
    apply gabionlaw08_FeistelOnce.L7.ok
    refine xsIf_t (by simp; omega) ?_
    obtain ⟨k, hk⟩ := new_goes key hm (i := i) (by omega)
    have hkm := hk.1
    refine feistel_Perm_To.c (i := i) (new_perm key hm) (by omega) hk ⟨_, rfl, xsIf_f (by simp) (xsIf_f (by simp; omega) ⟨by omega, ?_⟩)⟩
    obtain ⟨b, hb, hbt⟩ := hc k hkm
    refine w.base (by omega) fun b' hcell _ _ => ⟨b, ?_, ?_⟩
    · rw [Int.toNat_natCast, hcell k hkm, hb]
    have hbf : b = false := by
      cases b with
      | false => rfl
      | true =>
        obtain ⟨j', hj', hg⟩ := hbt rfl
        have := P.goes_inj fit (by omega) (by omega) hg hk
        omega
    refine xsIf_f hbf ?_
    refine feistel_Perm_From.c (new_perm key hm) hkm (P.goes_back fit (by omega) hk) ⟨_, rfl, xsIf_f (by simp) ⟨by omega, ?_⟩⟩
    refine w.base (by omega) fun b' _ hcan hput => ?_
    rw [Int.toNat_natCast]
    refine ⟨hcan k hkm, ?_⟩
    rw [i64_in _ (by omega)]
    refine ih (i + 1) _ _ (by omega) (hput k _ hkm) ?_
    intro q hqm
    rw [List.getElem?_set]
    by_cases e : k = q
    · subst e
      rw [if_pos rfl, if_pos (by rw [w.len]; omega)]
      exact ⟨true, rfl, fun _ => ⟨i, by omega, hk⟩⟩
    · rw [if_neg e]
      obtain ⟨b2, h1, h2⟩ := hc q hqm
      exact ⟨b2, h1, fun hb => by obtain ⟨j', hj', hg⟩ := h2 hb; exact ⟨j', by omega, hg⟩⟩

theorem gabionlaw08_FeistelOnce.law (x : Int) (hx : IntKind.u16.min ≤ x ∧ x ≤ IntKind.u16.max) (key : Int) (hk : IntKind.u64.min ≤ key ∧ key ≤ IntKind.u64.max) (h : Heap) :
    C Try.prog 13 #[.int .u16 x, .int .u64 key] h fun v h' => v = .bool true ∧ Part h h' := by
  obtain ⟨x, rfl, hx'⟩ := nat_of rfl hx
  obtain ⟨key, rfl, hk'⟩ := nat_of rfl hk
  have hx' : x < 65536 := hx'
  have hk' : key < 18446744073709551616 := hk'
  apply gabionlaw08_FeistelOnce.ok
  unfold gabionlaw08_FeistelOnce.wp
  have hm := Nat.mod_lt x (show 600 > 0 by omega)
  rw [show (600 : Int) = ((600 : Nat) : Int) from rfl, irem_nat, i64_in ((x % 600 : Nat) : Int) (by omega), i64_in _ (by omega), show (1 : Int) + ((x % 600 : Nat) : Int) = ((1 + x % 600 : Nat) : Int) by omega]
  have hm1 : 1 ≤ 1 + x % 600 ∧ 1 + x % 600 ≤ 600 := by omega
  generalize 1 + x % 600 = m at hm1 ⊢
  refine feistel_New.c hm1.1 (by omega) hk' ⟨_, _, _, _, _, _, _, rfl, ?_⟩
  refine gabionlaw08_wakes.c ⟨_, rfl, xsIf_f rfl (xsIf_f rfl ?_)⟩
  apply gabionlaw08_FeistelOnce.J5.ok
  unfold gabionlaw08_FeistelOnce.J5.wp
  refine Own.make (h0 := h) (Part.refl h) bools4.1 (by omega) (by rw [bools4.2]; omega) (by omega) ?_
  intro a h' w
  rw [Int.toNat_natCast] at w ⊢
  refine once_loop hm1.1 (by omega) (fun h p => ⟨rfl, p⟩) m 0 _ _ (by omega) w ?_
  intro k hkm
  exact ⟨false, by rw [List.getElem?_replicate, if_pos hkm], fun e => by cases e⟩

end Go.Gb
