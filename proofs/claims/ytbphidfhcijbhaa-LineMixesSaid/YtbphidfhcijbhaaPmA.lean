/- Own text for the seat: PmA. -/
import Derived.Test.YtbphidfhcijbhaaPm12
set_option linter.unusedVariables false
set_option linter.unusedSimpArgs false
set_option linter.unnecessarySimpa false
set_option linter.deprecated false
namespace Go.Gb
open Go.Proofs IntWalk

/-! ## the laws of pm: what the document fixes -/

def w1 : PmS := (pflush (pstore (pnew 2) 0 7).2 0).2
def w2 : PmS := pboot w1 []
def w3 : PmS := (pflush (pstore w2 0 7).2 0).2
def w4 : PmS := pboot (pfence w3).2 []

theorem gabionlaw03_wakes.c {h : Heap} {Q : Value → Heap → Prop} (hq : ∀ h', Part h h' → Q (.bool true) h') : C Try.prog 13 #[] h Q := by
  apply gabionlaw03_wakes.ok
  refine pm_New.c (n := 2) (by omega) (by omega) fun d F h1 p1 fr lv hp => ⟨_, _, rfl, xsIf_f (by decide) (xsIf_f rfl (pm_Device_Store.c p1 fun h2 p2 t2 => ⟨_, rfl, xsIf_f (by kernel_rfl) (pm_Device_Flush.c p2 fun h3 p3 t3 => ⟨_, rfl, xsIf_f (by kernel_rfl) ?_⟩)⟩))⟩
  have lv3 := t3.dom (t2.dom lv)
  have p3 : PmD F h3 d w1 := p3
  apply gabionlaw03_wakes.J4.ok
  refine pm_Device_Boot.c (ks := []) p3 lv3 (fun k hk => by simp at hk) fun h4 p4 t4 => pm_Device_Load.c p4 ⟨_, _, rfl, ?_⟩
  have p4 : PmD F h4 d w2 := p4
  refine pm_Device_Store.c p4 fun h5 p5 t5 => ⟨_, rfl, pm_Device_Flush.c p5 fun h6 p6 t6 => ⟨_, rfl, ?_⟩⟩
  have p6 : PmD F h6 d w3 := p6
  have lv6 := t6.dom (t5.dom (t4.dom lv3))
  refine pm_Device_Fence.c p6 lv6 fun h7 p7 t7 => ⟨_, rfl, pm_Device_Boot.c (ks := []) p7 (t7.dom lv6) (fun k hk => by simp at hk) fun h8 p8 t8 => ?_⟩
  have p8 : PmD F h8 d w4 := p8
  refine pm_Device_Load.c p8 ⟨_, _, rfl, xsIf_t (by kernel_rfl) (xsIf_t (by kernel_rfl) (pm_Device_Media.c p8 ⟨_, rfl, xsIf_t (by kernel_rfl) (pm_Device_Wear.c p8 ⟨_, rfl, xsIf_t (by kernel_rfl) (pm_Device_Lines.c p8 ⟨_, rfl, ?_⟩)⟩)⟩))⟩
  have e : (decide ((w4.nl : Int) = 2)) = true := by kernel_rfl
  rw [e]
  refine hq h8 fun k o hk => ?_
  have hn : h k ≠ none := by rw [hk]; simp
  have hF : ¬ F k := fun hf => hn (fr k hf)
  have t := (((((t2.trans t3).trans t4).trans t5).trans t6).trans t7).trans t8
  have h1k := hp k o hk
  rw [t.keep k hF (by rw [h1k]; simp)]; exact h1k
end Go.Gb
