/- Own text for the seat: PmC2. -/
import Derived.Test.YtbphidfhcijbhaaPmC1
set_option linter.unusedVariables false
set_option linter.unusedSimpArgs false
set_option linter.unnecessarySimpa false
set_option linter.deprecated false
namespace Go.Gb
open Go.Proofs IntWalk

theorem gabionlaw03_PmFuse.law (n : Int) (hn : IntKind.u8.min ≤ n ∧ n ≤ IntKind.u8.max) (v : Int) (hv : IntKind.u64.min ≤ v ∧ v ≤ IntKind.u64.max) (h : Heap) : C Try.prog 6 #[.int .u8 n, .int .u64 v] h fun v h' => v = .bool true ∧ Part h h' := by
  obtain ⟨n, rfl, hn'⟩ := nat_of rfl hn
  have hn' : n < 256 := hn'
  apply gabionlaw03_PmFuse.ok
  refine pm_New.c (n := 3) (by omega) (by omega) fun d F h1 p1 fr lv hp => ⟨_, _, rfl, gabionlaw03_wakes.c fun h2 hp2 => ⟨_, rfl, xsIf_f rfl (xsIf_f (by decide) (xsIf_f rfl ?_))⟩⟩
  have p2 : PmD F h2 d (pnew 3) := p1.keep fun k _ hk => part_live hp2 hk
  have st2 : Step F h1 F h2 := Step.of_part hp2
  apply gabionlaw03_PmFuse.J4.ok
  have ek : IntKind.i64.wrap (1 + IntKind.i64.wrap (irem (n : Int) 30)) = ((1 + n % 30 : Nat) : Int) := by
    have e1 : irem (n : Int) 30 = ((n % 30 : Nat) : Int) := irem_nat n 30
    rw [e1, i64_in ((n % 30 : Nat) : Int) (by omega), i64_in _ (by omega)]; omega
  unfold gabionlaw03_PmFuse.J4.wp
  rw [ek]
  refine pm_Device_Break.c p2 fun h3 p3 st3 => pm_Device_Fuse.c p3 (by omega) fun h4 p4 st4 => ?_
  have lv4 := st4.dom (st3.dom (st2.dom lv))
  refine gabionlaw03_PmFuse.L8.c (F := F) (k := 1 + n % 30) (by omega) trivial (n % 30) 1 h4 _ (by omega) (by omega) p4 lv4 rfl rfl ?_ rfl rfl rfl fun h5 s5 w5 a1 _ a3 a4 a5 st5 => ?_
  · dsimp only
    unfold imax
    split <;> omega
  · refine gabionlaw03_PmFuse.J15.c w5 (st5.dom lv4) a1 a3 a4 a5 fun h6 st6 => ⟨rfl, fun k o hk => ?_⟩
    have hn0 : h k ≠ none := by rw [hk]; simp
    have hF : ¬ F k := fun hf => hn0 (fr k hf)
    have h1k := hp k o hk
    have t := (((st2.trans st3).trans st4).trans st5).trans st6
    rw [t.keep k hF (by rw [h1k]; simp)]; exact h1k
end Go.Gb
