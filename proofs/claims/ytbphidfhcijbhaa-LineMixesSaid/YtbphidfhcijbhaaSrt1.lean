/- Own text for the seat: Srt1. -/
import Derived.Test.YtbphidfhcijbhaaLayS
import Derived.Test.YtbphidfhcijbhaaGbSrt
import Derived.Test.YtbphidfhcijbhaaGbClose
set_option linter.unusedVariables false
set_option linter.unusedSimpArgs false
set_option linter.unnecessarySimpa false
set_option linter.deprecated false
namespace Go.Gb
open Go.Proofs

theorem sortsI (m : Nat) : AnyZI.SortsIn Try.prog Try.sortedI_ren Fence.wide m :=
  ⟨fun blk off cap ss W hH hblk hsz => callsIn_wide.2 (AnyM.slices_Sort_int Try.sortI blk off cap ss W hH hblk hsz),
   fun p cap W => callsIn_wide.2 (AnyM.slices_Sort_int_none Try.sortI p cap W)⟩

theorem sortedI.c {h : Heap} {r Bm c : Nat} {T : TypeId} {l : List (Int × Value × Nat)} (hB : h Bm = some (.cells #[.map (some r)] T (0, 0))) (hm : h r = some (mapO (Value.int .i64) l c)) (m : IMap l c) (hn : l.length ≤ 10000000000000) :
    C Try.prog 52 #[.func (.func 74) #[] #[.pointer (some ⟨Bm, 0, none⟩)]] h fun v h' => ∃ a n cp, v = .slice a n cp ∧ n = l.length ∧ Sl (fun k => h k = none) h' 3 1 a n cp ((sortZ (keysOf l)).map (Value.int .i64)) ∧ Part h h' :=
  C_sorted_keys (ρ := Try.sortedI_ren) (ρk := Try.keysP_ren) Try.sortedI Try.keysP sortsI (enters_of Try.func73 (by kernel_rfl) rfl) (enters_of Try.func74 (by kernel_rfl) rfl) Try.keysP.t26 hB hm m hn
end Go.Gb
