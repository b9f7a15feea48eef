/- Own texts for the seat: Rep1. -/
import Derived.Test.YtdlenbajhalknaaGreatLayR
import Derived.Test.YtdlenbajhalknaaGreatA10
import Derived.Test.YtdlenbajhalknaaGreatA6
set_option linter.unusedVariables false
set_option linter.unusedSimpArgs false
set_option linter.unnecessarySimpa false
set_option linter.deprecated false
namespace Go.Gb
open Go.Proofs Go.RowKit Go.Shelf
theorem Tryz.repX : Builder.Extra Tryz.prog Tryz.rep_ren where
 sizeBuilder := by kernel_rfl
 liesBuilder := by kernel_rfl
 t5 := Tryz.underlying5
 a5 := Tryz.isAgg5
 z5 := Tryz.sizeOf5
 v5 := Tryz.zeroValue5
 infoByte := by kernel_rfl
 cellsByte := by kernel_rfl
 sizeByte := by kernel_rfl
 neB5 := by decide
theorem strings_Repeat.c {s : ByteArray} {c : Nat} {h : Heap} {Q : Value → Heap → Prop} (hc : c ≤ 1000000) (hlen : s.size ≤ 1000000) (hq : Q (.string ⟨(Lib.repeatL s.data.toList c).toArray⟩) h) : C Tryz.prog 19 #[.string s, .int .i64 (c : Int)] h Q := by
 intro w hs
 have hm : s.size * c ≤ 140737488355328 := Nat.le_trans (Nat.mul_le_mul hlen hc) (by omega)
 refine (Any.strings_Repeat Tryz.rep Tryz.repX s c w (by omega) hm).mono ?_
 rintro e w' ⟨rfl, hb⟩
 exact ⟨_, h, rfl, hq, fun k o e => (hb.block k ((Array.getElem?_eq_some_iff.1 (hs k o e)).1)).trans (hs k o e), hb.size, fun k hk _ => hb.block k hk, fun k hk => .inl hk, hb.os, hb.output, hb.tape⟩
end Go.Gb
