/- Own text for the seat: GbRun. -/
import Derived.Test.YtbphidfhcijbhaaGbDraw
set_option linter.unusedVariables false
set_option linter.unusedSimpArgs false
set_option linter.unnecessarySimpa false
set_option linter.deprecated false
namespace Go.Gb

/-! The run: regions, jumps, returns. -/

/-- The operations of a region, in a given order. -/
def xsOps (P : Program) (H : Hn) (n : Nat) (all : List Oper) : List Nat → St → Heap → (St → Heap → Prop) → Prop
  | [], st, h, K => K st h
  | i :: r, st, h, K => match all[i]? with
    | none => False
    | some o => match o.guard with
      | none => xsOper P H o st h (xsPut n o.dst fun st' h' => xsOps P H n all r st' h' K)
      | some (j, want) => match all[j]? with
        | none => False
        | some oj => match oj.dst with
          | none => False
          | some d => match Nat.blt d n with
            | false => False
            | true => match st.get d with
              | .v (.bool b) => xsIf b
                  (match want with
                    | true => xsOper P H o (st.put d (.v (.bool true))) h (xsPut n o.dst fun st' h' => xsOps P H n all r st' h' K)
                    | false => xsPut n o.dst (fun st' h' => xsOps P H n all r st' h' K) (.v undef) (st.put d (.v (.bool true))) h)
                  (match want with
                    | true => xsPut n o.dst (fun st' h' => xsOps P H n all r st' h' K) (.v undef) (st.put d (.v (.bool false))) h
                    | false => xsOper P H o (st.put d (.v (.bool false))) h (xsPut n o.dst fun st' h' => xsOps P H n all r st' h' K))
              | .v (.tuple _) => xsPut n o.dst (fun st' h' => xsOps P H n all r st' h' K) (.v undef) st h
              | _ => False

theorem xsPut_mono {n : Nat} {dst : Option Tmp} {K K' : St → Heap → Prop} (hk : ∀ st h, K st h → K' st h) {x : XV} {st : St} {h : Heap} (p : xsPut n dst K x st h) : xsPut n dst K' x st h := by
  unfold xsPut at p ⊢
  cases dst with
  | none => exact hk _ _ p
  | some d =>
    dsimp only at p ⊢
    cases hb : Nat.blt d n with
    | true => rw [hb] at p; exact hk _ _ p
    | false => rw [hb] at p; exact p

theorem TW.putSame {P : Program} {f n : Nat} {todo : List Item} {st : St} {h : Heap} {Q : Value → Heap → Prop} {d : Nat} {x : XV} (hd : st.get d = x) (t : TW P f n todo (st.put d x) h Q) : TW P f n todo st h Q := by
  refine .weaken (st' := st.put d x) ?_ (fun k => .inr rfl) (fun u k off _ hk => hk) t
  intro u
  right
  rw [get_put]
  split
  · rename_i e; rw [← e, hd]
  · rfl

theorem yielded_of {n : Nat} {st : St} {h : Heap} {β : Nat → Nat} {a : Act} {w : World} (r : Rep n st h β a w) {ops : Array Oper} {j d : Nat} {oj : Oper} (hj : ops[j]? = some oj) (hd : oj.dst = some d) {b : Bool} (hg : st.get d = .v (.bool b)) :
    yielded ops a.tmps j = some b := by
  unfold yielded
  rw [hj]
  simp only [Option.bind_some, hd]
  rcases r.env d with h1 | ⟨y, hy, hi⟩
  · rw [hg] at h1; cases h1
  · rw [hg] at hi
    have : y = .bool b := hi
    rw [hy, this]

theorem yielded_none {n : Nat} {st : St} {h : Heap} {β : Nat → Nat} {a : Act} {w : World} (r : Rep n st h β a w) {ops : Array Oper} {j d : Nat} {oj : Oper} (hj : ops[j]? = some oj) (hd : oj.dst = some d) {vs : Array Value} (hg : st.get d = .v (.tuple vs)) :
    yielded ops a.tmps j = none := by
  unfold yielded
  rw [hj]
  simp only [Option.bind_some, hd]
  rcases r.env d with h1 | ⟨y, hy, hi⟩
  · rw [hg] at h1; cases h1
  · rw [hg] at hi
    have : y = .tuple vs := hi
    rw [hy, this]

theorem xsOps_ok {P : Program} {H : Hn} {f n : Nat} {ops : Array Oper} {k : List Item} {Q : Value → Heap → Prop} {K : St → Heap → Prop} (hK : ∀ st h, K st h → TW P f n k st h Q) (l : List Nat) : ∀ (st : St) (h : Heap),
    xsOps P H n ops.toList l st h K → TW P f n (.inRegion ops l :: k) st h Q := by
  induction l with
  | nil => intro st h hk; exact .regionEnd (hK _ _ hk)
  | cons i r ih =>
    intro st h hk
    unfold xsOps at hk
    split at hk
    · exact hk.elim
    · rename_i o ho
      have ho' : ops[i]? = some o := by rw [← Array.getElem?_toList]; exact ho
      split at hk
      · rename_i hg
        refine .op ho' (fun β a w _ => by simp [Region.wanted, hg]) (fun β a w rep => xsOper_ok rep hk) ?_
        intro x st' h' hx
        exact xsPut_mono (fun st h => ih st h) hx
      · rename_i j want hg
        split at hk
        · exact hk.elim
        · rename_i oj hoj
          have hoj' : ops[j]? = some oj := by rw [← Array.getElem?_toList]; exact hoj
          split at hk
          · exact hk.elim
          · rename_i d hd
            split at hk
            · exact hk.elim
            · split at hk
              · rename_i b hb
                obtain ⟨ht, hf⟩ := xsIf_iff.1 hk
                clear hk
                cases b with
                | true =>
                  have hk := ht rfl
                  refine .putSame hb ?_
                  cases want with
                  | true =>
                    refine .op ho' (fun β a w rep => by
                      have hy := yielded_of rep hoj' hd (b := true) (by rw [get_put, if_pos rfl])
                      simp [Region.wanted, hg, hy]) (fun β a w rep => xsOper_ok rep hk) ?_
                    intro x st' h' hx
                    exact xsPut_mono (fun st h => ih st h) hx
                  | false =>
                    refine .opSkip ho' (fun β a w rep => by
                      have hy := yielded_of rep hoj' hd (b := true) (by rw [get_put, if_pos rfl])
                      simp [Region.wanted, hg, hy]) (xsPut_mono (fun st h => ih st h) hk)
                | false =>
                  have hk := hf rfl
                  refine .putSame hb ?_
                  cases want with
                  | true =>
                    refine .opSkip ho' (fun β a w rep => by
                      have hy := yielded_of rep hoj' hd (b := false) (by rw [get_put, if_pos rfl])
                      simp [Region.wanted, hg, hy]) (xsPut_mono (fun st h => ih st h) hk)
                  | false =>
                    refine .op ho' (fun β a w rep => by
                      have hy := yielded_of rep hoj' hd (b := false) (by rw [get_put, if_pos rfl])
                      simp [Region.wanted, hg, hy]) (fun β a w rep => xsOper_ok rep hk) ?_
                    intro x st' h' hx
                    exact xsPut_mono (fun st h => ih st h) hx
              · rename_i vs hb
                refine .opSkip ho' (fun β a w rep => by
                  have hy := yielded_none rep hoj' hd hb
                  simp [Region.wanted, hg, hy]) (xsPut_mono (fun st h => ih st h) hk)
              · exact hk.elim

/-! Results. -/

def resVals (P : Program) (H : Hn) (st : St) : List ResultVar → (List Value → Prop) → Prop
  | [], K => K []
  | .tmp t :: r, K => match st.get t with
    | .v v => resVals P H st r fun vs => K (v :: vs)
    | _ => False
  | .cell c T :: r, K => match st.get c with
    | .p k o => match st.pget k with
      | some cs => xsGetP P (memN H.dyn k) T cs o fun v => resVals P H st r fun vs => K (v :: vs)
      | none => False
    | _ => False

def xsRet (P : Program) (H : Hn) (fn : Func) (st : St) (h : Heap) (Q : Value → Heap → Prop) : Prop :=
  resVals P H st fn.results.toList fun vs => match vs with
    | [v] => Q v h
    | vs => Q (.tuple vs.toArray) h

def resOne (tmps : Array Value) : ResultVar → Sem Value
  | .tmp t => pure (tmps.getD t undef)
  | .cell c t => do loadVar t (← asAddr (tmps.getD c undef))

theorem resVals_ok {P : Program} {H : Hn} {n : Nat} {st : St} {h : Heap} {β : Nat → Nat} {a : Act} {w : World} (rp : Rep n st h β a w) (l : List ResultVar) : ∀ (K : List Value → Prop), resVals P H st l K →
    ∃ vs, (l.mapM (resOne a.tmps)).run P w = .ok vs w ∧ K vs := by
  induction l with
  | nil => intro K hk; exact ⟨[], by simp, hk⟩
  | cons x r ih =>
    intro K hk
    cases x with
    | tmp t =>
      unfold resVals at hk
      split at hk
      · rename_i v hv
        obtain ⟨vs, hvs, hkv⟩ := ih _ hk
        refine ⟨v :: vs, ?_, hkv⟩
        have hev : a.tmps.getD t undef = v := rp.val (x := .tmp t) hv
        have hone : (resOne a.tmps (.tmp t)).run P w = .ok v w := by simp [resOne, hev]
        rw [List.mapM_cons, Sem.run_bind, hone, Result.andThen_ok, Sem.run_bind, hvs]; rfl
      · exact hk.elim
    | cell c T =>
      unfold resVals at hk
      split at hk
      · rename_i k o hc
        split at hk
        · rename_i cs hcs
          have hev : a.tmps.getD c undef = .pointer (some ⟨β k, o, none⟩) := by
            have := rp.is (.tmp c)
            rw [show st.opd (.tmp c) = .p k o from hc] at this; exact this
          have hl : xsLoad P H T (.p k o) st h (fun v => resVals P H st r fun vs => K (v :: vs)) := by
            simp only [xsLoad, hcs]; exact hk
          obtain ⟨v, hv, hk2⟩ := xsLoad_ok (w := w) (x := .p k o) (y := .pointer (some ⟨β k, o, none⟩)) rp rfl hl
          obtain ⟨vs, hvs, hkv⟩ := ih _ hk2
          refine ⟨v :: vs, ?_, hkv⟩
          have hv' : (loadVar T ⟨β k, o, none⟩).run P w = .ok v w := by
            simpa [Instr.loadAt, Instr.sureAddr] using hv
          have hone : (resOne a.tmps (.cell c T)).run P w = .ok v w := by simp [resOne, hev, asAddr, hv']
          rw [List.mapM_cons, Sem.run_bind, hone, Result.andThen_ok, Sem.run_bind, hvs]; rfl
        · exact hk.elim
      · exact hk.elim

theorem run_results {P : Program} {H : Hn} {n : Nat} {fn : Func} {st : St} {h : Heap} {Q : Value → Heap → Prop} {β : Nat → Nat} {a : Act} {w : World} (r : Rep n st h β a w) (hk : xsRet P H fn st h Q) :
    ∃ v, (results fn a.tmps).run P w = .ok v w ∧ Q v h := by
  unfold xsRet at hk
  obtain ⟨vs, hvs, hq⟩ := resVals_ok r _ _ hk
  have hdef : results fn a.tmps = (do
      let vs ← fn.results.mapM (resOne a.tmps)
      pure (if h : vs.size = 1 then vs[0] else .tuple vs)) := rfl
  rw [hdef]
  rw [Array.mapM_eq_mapM_toList, Sem.run_bind, Sem.run_map, hvs, Result.andThen_ok, Result.andThen_ok]
  rcases vs with _ | ⟨v, _ | ⟨u, vs⟩⟩
  · exact ⟨_, by simp, hq⟩
  · exact ⟨v, by simp, hq⟩
  · exact ⟨_, by simp, hq⟩

theorem TW.ret {P : Program} {H : Hn} {f n : Nat} {fn : Func} {k : List Item} {st : St} {h : Heap} {Q : Value → Heap → Prop} (hf : P.funcs[f]? = some fn) (hk : xsRet P H fn st h Q) : TW P f n (.code .ret :: k) st h Q := by
  intro β a w r cs
  obtain ⟨v, hv, hq⟩ := run_results r hk
  refine ⟨v, h, w, _, hq, ⟨r.sub, Nat.le_refl _, fun _ _ _ _ => rfl, fun _ hk => .inl hk, rfl, rfl, rfl⟩, .one step_ret, rfl, ?_⟩
  exact ⟨rfl, r.defers, rfl, fn, hf, hv⟩

theorem TW.nil {P : Program} {H : Hn} {f n : Nat} {fn : Func} {st : St} {h : Heap} {Q : Value → Heap → Prop} (hf : P.funcs[f]? = some fn) (hk : xsRet P H fn st h Q) : TW P f n [] st h Q := by
  intro β a w r cs
  obtain ⟨v, hv, hq⟩ := run_results r hk
  refine ⟨v, h, w, _, hq, ⟨r.sub, Nat.le_refl _, fun _ _ _ _ => rfl, fun _ hk => .inl hk, rfl, rfl, rfl⟩, .one step_end, rfl, ?_⟩
  exact ⟨rfl, r.defers, rfl, fn, hf, hv⟩

/-! What is kept of a state at a cut. -/

def keepE (st : St) (pr : List Nat) : List Nat → List (Nat × XV)
  | [] => []
  | t :: r => match st.get t with
    | .v x => (t, .v x) :: keepE st pr r
    | .p k off => match memN pr k with
      | true => (t, .p k off) :: keepE st pr r
      | false => keepE st pr r
    | .dead => keepE st pr r

def keepP (st : St) : List Nat → List (Nat × List Value)
  | [] => []
  | k :: r => match st.pget k with
    | some cs => (k, cs) :: keepP st r
    | none => keepP st r

def St.keep (st : St) (vs pr : List Nat) : St := ⟨keepE st pr vs, keepP st pr⟩

theorem getE_keepE (st : St) (pr : List Nat) (l : List Nat) (t : Nat) : getE (keepE st pr l) t = .dead ∨ (getE (keepE st pr l) t = st.get t ∧ ∀ k off, st.get t = .p k off → memN pr k = true) := by
  induction l with
  | nil => exact .inl rfl
  | cons u r ih =>
    unfold keepE
    split
    · rename_i x hx
      unfold getE
      by_cases e : u = t
      · subst e; rw [Nat.beq_refl]; right; exact ⟨hx.symm, fun k off h => by rw [hx] at h; cases h⟩
      · rw [beq_ne e]; exact ih
    · rename_i k off hx
      split
      · rename_i hm
        unfold getE
        by_cases e : u = t
        · subst e; rw [Nat.beq_refl]; right; exact ⟨hx.symm, fun k' off' h => by rw [hx] at h; cases h; exact hm⟩
        · rw [beq_ne e]; exact ih
      · exact ih
    · exact ih

theorem getP_keepP (st : St) (l : List Nat) (k : Nat) : getP (keepP st l) k = none ∨ getP (keepP st l) k = st.pget k := by
  induction l with
  | nil => exact .inl rfl
  | cons u r ih =>
    unfold keepP
    split
    · rename_i cs hcs
      unfold getP
      by_cases e : u = k
      · subst e; rw [Nat.beq_refl]; exact .inr hcs.symm
      · rw [beq_ne e]; exact ih
    · exact ih

theorem getP_keepP_mem (st : St) (l : List Nat) (k : Nat) (hm : memN l k = true) (hk : st.pget k ≠ none) : getP (keepP st l) k ≠ none := by
  induction l with
  | nil => cases hm
  | cons u r ih =>
    unfold memN at hm
    unfold keepP
    by_cases e : u = k
    · subst e
      cases hc : st.pget u with
      | none => exact absurd hc hk
      | some cs => dsimp only; unfold getP; rw [Nat.beq_refl]; simp
    · rw [beq_ne e] at hm
      have := ih hm
      split
      · unfold getP; rw [beq_ne e]; exact this
      · exact this

theorem TW.keep {P : Program} {f n : Nat} {todo : List Item} {st : St} {h : Heap} {Q : Value → Heap → Prop} (vs pr : List Nat) (t : TW P f n todo (st.keep vs pr) h Q) : TW P f n todo st h Q := by
  refine .weaken (st' := st.keep vs pr) ?_ ?_ ?_ t
  · intro u
    rcases getE_keepE st pr vs u with h1 | h1
    · exact .inl h1
    · exact .inr h1.1
  · intro k; exact getP_keepP st pr k
  · intro u k off hu hk
    have hu' : getE (keepE st pr vs) u = .p k off := hu
    rcases getE_keepE st pr vs u with h1 | ⟨h1, h2⟩
    · rw [h1] at hu'; cases hu'
    · rw [h1] at hu'
      exact getP_keepP_mem st pr k (h2 k off hu') hk

/-! The run over what is left to do. -/

/-- Where a run is cut: at a region's number (or at a loop: the number of its body's first region): what is kept. -/
structure Cut where
  at_ : Nat
  vs : List Nat
  pr : List Nat

def findCut : List Cut → Nat → Option Cut
  | [], _ => none
  | c :: r, t => match Nat.beq c.at_ t with
    | true => some c
    | false => findCut r t

/-- The number of the first region of some code. -/
def firstRegion : Code → Option Nat
  | .region id _ _ => some id
  | .seq a b => match firstRegion a with
    | some k => some k
    | none => firstRegion b
  | .block _ c => firstRegion c
  | .loop c => firstRegion c
  | .scope c => firstRegion c
  | .cond _ a b => match firstRegion a with
    | some k => some k
    | none => firstRegion b
  | _ => none

def cutAt (cuts : List Cut) (o : Option Nat) : Option Cut :=
  match o with
  | some k => findCut cuts k
  | none => none

def findDraw : List Dr → Nat → Option Dr
  | [], _ => none
  | c :: r, t => match Nat.beq c.at_ t with
    | true => some c
    | false => findDraw r t

def xs (P : Program) (H : Hn) (f n : Nat) (fn : Func) (lcuts rcuts : List Cut) : Nat → List Item → St → Heap → (Value → Heap → Prop) → Prop
  | 0, _, _, _, _ => False
  | m + 1, todo, st, h, Q => match todo with
    | [] => xsRet P H fn st h Q
    | .code c :: k => match c with
      | .ret => xsRet P H fn st h Q
      | .skip => xs P H f n fn lcuts rcuts m k st h Q
      | .label _ => xs P H f n fn lcuts rcuts m k st h Q
      | .seq a b => xs P H f n fn lcuts rcuts m (.code a :: .code b :: k) st h Q
      | .block id b => xs P H f n fn lcuts rcuts m (.code b :: .inBlock id :: k) st h Q
      | .exit id => match exitTo id k with
        | some k' => xs P H f n fn lcuts rcuts m k' st h Q
        | none => False
      | .cond c a b => match st.opd c with
        | .v (.bool t) => xsIf t (xs P H f n fn lcuts rcuts m (.code a :: k) st h Q) (xs P H f n fn lcuts rcuts m (.code b :: k) st h Q)
        | _ => False
      | .loop b => match cutAt lcuts (firstRegion b) with
        | some ct => TW P f n (.code b :: .inLoop b :: k) (st.keep ct.vs ct.pr) h Q
        | none => False
      | .region id ops draw => match findCut rcuts id with
        | some ct => TW P f n todo (st.keep ct.vs ct.pr) h Q
        | none => match draw with
          | false => xsOps P H n ops.toList (List.range ops.size) st h fun st' h' => xs P H f n fn lcuts rcuts m k st' h' Q
          | true => match findDraw H.draws id with
            | none => False
            | some dr => match noSel ops.toList with
              | false => False
              | true => match edgesOk ops.size ops.toList with
                | false => False
                | true => match Nat.beq dr.order.len ops.size with
                  | false => False
                  | true => xsD P H n ops dr.wr dr.order 0 0 st h fun st' h' => xs P H f n fn lcuts rcuts m k st' h' Q
      | _ => False
    | .inBlock _ :: k => xs P H f n fn lcuts rcuts m k st h Q
    | .inLoop b :: k => match cutAt lcuts (firstRegion b) with
      | some ct => TW P f n (.code b :: .inLoop b :: k) (st.keep ct.vs ct.pr) h Q
      | none => False
    | _ => False

theorem xs_ok {P : Program} {H : Hn} {f n : Nat} {fn : Func} {lcuts rcuts : List Cut} {Q : Value → Heap → Prop} (hm : P.follows .mixedOrders = true) (hf : P.funcs[f]? = some fn) (m : Nat) : ∀ (todo : List Item) (st : St) (h : Heap),
    xs P H f n fn lcuts rcuts m todo st h Q → TW P f n todo st h Q := by
  induction m with
  | zero => intro todo st h hk; exact hk.elim
  | succ m ih =>
    intro todo st h hk
    unfold xs at hk
    split at hk
    · exact .nil hf hk
    · split at hk
      · exact .ret hf hk
      · exact .skip (ih _ _ _ hk)
      · exact .label (ih _ _ _ hk)
      · exact .seq (ih _ _ _ hk)
      · exact .block (ih _ _ _ hk)
      · split at hk
        · rename_i he
          exact .exit he (ih _ _ _ hk)
        · exact hk.elim
      · split at hk
        · rename_i t hc
          obtain ⟨h1, h2⟩ := xsIf_iff.1 hk
          clear hk
          cases t with
          | true => exact .cond hc (by simpa using ih _ _ _ (h1 rfl))
          | false => exact .cond hc (by simpa using ih _ _ _ (h2 rfl))
        · exact hk.elim
      · split at hk
        · exact .loop (TW.keep _ _ hk)
        · exact hk.elim
      · split at hk
        · exact TW.keep _ _ hk
        · split at hk
          · exact .region (xsOps_ok (fun st h hk => ih _ _ _ hk) _ _ _ hk)
          · split at hk
            · exact hk.elim
            · split at hk
              · exact hk.elim
              · rename_i hns
                split at hk
                · exact hk.elim
                · rename_i hed
                  split at hk
                  · exact hk.elim
                  · rename_i hlen
                    exact .draw _ hm hns hed (Nat.eq_of_beq_eq_true hlen) (fun st h hk => ih _ _ _ hk) hk
      · exact hk.elim
    · exact .inBlock (ih _ _ _ hk)
    · split at hk
      · exact .inLoop (TW.keep _ _ hk)
      · exact hk.elim
    · exact hk.elim

/-- A function's contract, from its run. -/
theorem C_of_xs {P : Program} {H : Hn} {f : Nat} {fn : Func} {c : Code} {lcuts rcuts : List Cut} {l : List Value} {h : Heap} {Q : Value → Heap → Prop} (m : Nat) (hm : P.follows .mixedOrders = true)
    (hf : P.funcs[f]? = some fn) (hb : fn.body = some c) (hn : Nat.ble l.length fn.ntmps = true)
    (hk : xs P H f fn.ntmps fn lcuts rcuts m [.code c] ⟨argEnv 0 l, []⟩ h Q) : C P f l.toArray h Q :=
  C_of_TW hf hb (Nat.le_of_ble_eq_true hn) (xs_ok hm hf m _ _ _ hk)

end Go.Gb
