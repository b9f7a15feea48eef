/- Own texts for the seat: Rep1. -/
import Derived.Test.YtcccjpahikgibaaDoorLayR
import Derived.Test.YtcccjpahikgibaaDoorA12
import Derived.Test.YtcccjpahikgibaaDoorA7
set_option linter.unusedVariables false
set_option linter.unusedSimpArgs false
set_option linter.unnecessarySimpa false
set_option linter.deprecated false
namespace Go.Gb
open Go.Proofs Go.RowKit Go.Shelf

/-! strings.Repeat, by the kit's contract. -/

theorem Tryd.repX : Builder.Extra Tryd.prog Tryd.rep_ren where
  sizeBuilder := by kernel_rfl
  liesBuilder := by kernel_rfl
  t5 := Tryd.underlying5
  a5 := Tryd.isAgg5
  z5 := Tryd.sizeOf5
  v5 := Tryd.zeroValue5
  infoByte := by kernel_rfl
  cellsByte := by kernel_rfl
  sizeByte := by kernel_rfl
  neB5 := by decide

theorem strings_Repeat.c {s : ByteArray} {c : Nat} {h : Heap} {Q : Value → Heap → Prop} (hc : c ≤ 1000000) (hlen : s.size ≤ 1000000) (hq : Q (.string ⟨(Lib.repeatL s.data.toList c).toArray⟩) h) : C Tryd.prog 37 #[.string s, .int .i64 (c : Int)] h Q := by
  intro w hs
  have hm : s.size * c ≤ 140737488355328 := Nat.le_trans (Nat.mul_le_mul hlen hc) (by omega)
  refine (Any.strings_Repeat Tryd.rep Tryd.repX s c w (by omega) hm).mono ?_
  rintro e w' ⟨rfl, hb⟩
  exact ⟨_, h, rfl, hq, fun k o e => (hb.block k ((Array.getElem?_eq_some_iff.1 (hs k o e)).1)).trans (hs k o e), hb.size, fun k hk _ => hb.block k hk, fun k hk => .inl hk, hb.os, hb.output, hb.tape⟩
end Go.Gb
