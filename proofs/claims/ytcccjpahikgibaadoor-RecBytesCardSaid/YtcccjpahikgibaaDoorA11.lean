/- Own texts for the seat: GbRun GbPath GbRange. -/
import Derived.Test.YtcccjpahikgibaaDoorA10
import Derived.RangeFuncLeaves
set_option linter.unusedVariables false
set_option linter.unusedSimpArgs false
set_option linter.unnecessarySimpa false
set_option linter.deprecated false
namespace Go.Gb

/-! The run: regions, jumps, returns. -/

/-- The operations of a region, in a given order. -/
def xsOps (P : Program) (H : Hn) (n : Nat) (all : List Oper) : List Nat → St → Heap → (St → Heap → Prop) → Prop
  | [], st, h, K => K st h
  | i :: r, st, h, K => match all[i]? with
    | none => False
    | some o => match o.guard with
      | none => xsOper P H o st h (xsPut n o.dst fun st' h' => xsOps P H n all r st' h' K)
      | some (j, want) => match all[j]? with
        | none => False
        | some oj => match oj.dst with
          | none => False
          | some d => match Nat.blt d n with
            | false => False
            | true => match st.get d with
              | .v (.bool b) => xsIf b
                  (match want with
                    | true => xsOper P H o (st.put d (.v (.bool true))) h (xsPut n o.dst fun st' h' => xsOps P H n all r st' h' K)
                    | false => xsPut n o.dst (fun st' h' => xsOps P H n all r st' h' K) (.v undef) (st.put d (.v (.bool true))) h)
                  (match want with
                    | true => xsPut n o.dst (fun st' h' => xsOps P H n all r st' h' K) (.v undef) (st.put d (.v (.bool false))) h
                    | false => xsOper P H o (st.put d (.v (.bool false))) h (xsPut n o.dst fun st' h' => xsOps P H n all r st' h' K))
              | .v (.tuple _) => xsPut n o.dst (fun st' h' => xsOps P H n all r st' h' K) (.v undef) st h
              | _ => False

theorem xsPut_mono {n : Nat} {dst : Option Tmp} {K K' : St → Heap → Prop} (hk : ∀ st h, K st h → K' st h) {x : XV} {st : St} {h : Heap} (p : xsPut n dst K x st h) : xsPut n dst K' x st h := by
  unfold xsPut at p ⊢
  cases dst with
  | none => exact hk _ _ p
  | some d =>
    dsimp only at p ⊢
    cases hb : Nat.blt d n with
    | true => rw [hb] at p; exact hk _ _ p
    | false => rw [hb] at p; exact p

theorem TW.putSame {P : Program} {f n : Nat} {todo : List Item} {st : St} {h : Heap} {Q : Value → Heap → Prop} {d : Nat} {x : XV} (hd : st.get d = x) (t : TW P f n todo (st.put d x) h Q) : TW P f n todo st h Q := by
  refine .weaken (st' := st.put d x) rfl ?_ (fun k => .inr rfl) (fun u k off _ hk => hk) t
  intro u
  right
  rw [get_put]
  split
  · rename_i e; rw [← e, hd]
  · rfl

theorem yielded_of {n : Nat} {st : St} {h : Heap} {β : Nat → Nat} {a : Act} {w : World} (r : Rep n st h β a w) {ops : Array Oper} {j d : Nat} {oj : Oper} (hj : ops[j]? = some oj) (hd : oj.dst = some d) {b : Bool} (hg : st.get d = .v (.bool b)) :
    yielded ops a.tmps j = some b := by
  unfold yielded
  rw [hj]
  simp only [Option.bind_some, hd]
  rcases r.env d with h1 | ⟨y, hy, hi⟩
  · rw [hg] at h1; cases h1
  · rw [hg] at hi
    have : y = .bool b := hi
    rw [hy, this]

theorem yielded_none {n : Nat} {st : St} {h : Heap} {β : Nat → Nat} {a : Act} {w : World} (r : Rep n st h β a w) {ops : Array Oper} {j d : Nat} {oj : Oper} (hj : ops[j]? = some oj) (hd : oj.dst = some d) {vs : Array Value} (hg : st.get d = .v (.tuple vs)) :
    yielded ops a.tmps j = none := by
  unfold yielded
  rw [hj]
  simp only [Option.bind_some, hd]
  rcases r.env d with h1 | ⟨y, hy, hi⟩
  · rw [hg] at h1; cases h1
  · rw [hg] at hi
    have : y = .tuple vs := hi
    rw [hy, this]

theorem xsOps_ok {P : Program} {H : Hn} {f n : Nat} {ops : Array Oper} {k : List Item} {Q : Value → Heap → Prop} {K : St → Heap → Prop} (hK : ∀ st h, K st h → TW P f n k st h Q) (l : List Nat) : ∀ (st : St) (h : Heap),
    xsOps P H n ops.toList l st h K → TW P f n (.inRegion ops l :: k) st h Q := by
  induction l with
  | nil => intro st h hk; exact .regionEnd (hK _ _ hk)
  | cons i r ih =>
    intro st h hk
    unfold xsOps at hk
    split at hk
    · exact hk.elim
    · rename_i o ho
      have ho' : ops[i]? = some o := by rw [← Array.getElem?_toList]; exact ho
      split at hk
      · rename_i hg
        refine .op ho' (fun β a w _ => by simp [Region.wanted, hg]) (fun β a w rep => xsOper_ok rep hk) ?_
        intro x st' h' hx
        exact xsPut_mono (fun st h => ih st h) hx
      · rename_i j want hg
        split at hk
        · exact hk.elim
        · rename_i oj hoj
          have hoj' : ops[j]? = some oj := by rw [← Array.getElem?_toList]; exact hoj
          split at hk
          · exact hk.elim
          · rename_i d hd
            split at hk
            · exact hk.elim
            · split at hk
              · rename_i b hb
                obtain ⟨ht, hf⟩ := xsIf_iff.1 hk
                clear hk
                cases b with
                | true =>
                  have hk := ht rfl
                  refine .putSame hb ?_
                  cases want with
                  | true =>
                    refine .op ho' (fun β a w rep => by
                      have hy := yielded_of rep hoj' hd (b := true) (by rw [get_put, if_pos rfl])
                      simp [Region.wanted, hg, hy]) (fun β a w rep => xsOper_ok rep hk) ?_
                    intro x st' h' hx
                    exact xsPut_mono (fun st h => ih st h) hx
                  | false =>
                    refine .opSkip ho' (fun β a w rep => by
                      have hy := yielded_of rep hoj' hd (b := true) (by rw [get_put, if_pos rfl])
                      simp [Region.wanted, hg, hy]) (xsPut_mono (fun st h => ih st h) hk)
                | false =>
                  have hk := hf rfl
                  refine .putSame hb ?_
                  cases want with
                  | true =>
                    refine .opSkip ho' (fun β a w rep => by
                      have hy := yielded_of rep hoj' hd (b := false) (by rw [get_put, if_pos rfl])
                      simp [Region.wanted, hg, hy]) (xsPut_mono (fun st h => ih st h) hk)
                  | false =>
                    refine .op ho' (fun β a w rep => by
                      have hy := yielded_of rep hoj' hd (b := false) (by rw [get_put, if_pos rfl])
                      simp [Region.wanted, hg, hy]) (fun β a w rep => xsOper_ok rep hk) ?_
                    intro x st' h' hx
                    exact xsPut_mono (fun st h => ih st h) hx
              · rename_i vs hb
                refine .opSkip ho' (fun β a w rep => by
                  have hy := yielded_none rep hoj' hd hb
                  simp [Region.wanted, hg, hy]) (xsPut_mono (fun st h => ih st h) hk)
              · exact hk.elim

/-! Results. -/

def resVals (P : Program) (H : Hn) (st : St) (h : Heap) : List ResultVar → (List Value → Prop) → Prop
  | [], K => K []
  | .tmp t :: r, K => match st.get t with
    | .v v => resVals P H st h r fun vs => K (v :: vs)
    | _ => False
  | .cell c T :: r, K => xsLoad P H T (st.get c) st h fun v => resVals P H st h r fun vs => K (v :: vs)

def retV (vs : List Value) : Value :=
  match vs with
  | [v] => v
  | vs => .tuple vs.toArray

def xsRet (P : Program) (H : Hn) (fn : Func) (st : St) (h : Heap) (on : Bool) (Q : Value → Heap → Prop) : Prop :=
  match st.md with
  | .plain => resVals P H st h fn.results.toList fun vs => Q (retV vs) h
  | .marked D => h D = some (.deferred (some [])) ∧ resVals P H st (h.del D) fn.results.toList fun vs => Q (retV vs) (h.del D)
  | .round _ => Q (.bool on) h

def resOne (tmps : Array Value) : ResultVar → Sem Value
  | .tmp t => pure (tmps.getD t undef)
  | .cell c t => do loadVar t (← asAddr (tmps.getD c undef))

theorem resVals_ok {P : Program} {H : Hn} {n : Nat} {st : St} {h : Heap} {β : Nat → Nat} {a : Act} {w : World} (rp : Rep n st h β a w) (l : List ResultVar) : ∀ (K : List Value → Prop), resVals P H st h l K →
    ∃ vs, (l.mapM (resOne a.tmps)).run P w = .ok vs w ∧ K vs := by
  induction l with
  | nil => intro K hk; exact ⟨[], by simp, hk⟩
  | cons x r ih =>
    intro K hk
    cases x with
    | tmp t =>
      unfold resVals at hk
      split at hk
      · rename_i v hv
        obtain ⟨vs, hvs, hkv⟩ := ih _ hk
        refine ⟨v :: vs, ?_, hkv⟩
        have hev : a.tmps.getD t undef = v := rp.val (x := .tmp t) hv
        have hone : (resOne a.tmps (.tmp t)).run P w = .ok v w := by simp [resOne, hev]
        rw [List.mapM_cons, Sem.run_bind, hone, Result.andThen_ok, Sem.run_bind, hvs]; rfl
      · exact hk.elim
    | cell c T =>
      unfold resVals at hk
      have his : (st.get c).is β (a.tmps.getD c undef) := rp.is (.tmp c)
      have hptr : ∃ ad, a.tmps.getD c undef = .pointer (some ad) := by
        unfold xsLoad at hk
        split at hk
        · rename_i k o hg; rw [hg] at his; exact ⟨_, his⟩
        · rename_i b o hg; rw [hg] at his; exact ⟨_, his⟩
        · exact hk.elim
      obtain ⟨ad, hev⟩ := hptr
      obtain ⟨v, hv, hk2⟩ := xsLoad_ok (w := w) rp his hk
      obtain ⟨vs, hvs, hkv⟩ := ih _ hk2
      refine ⟨v :: vs, ?_, hkv⟩
      have hv' : (loadVar T ad).run P w = .ok v w := by
        rw [hev] at hv
        simpa [Instr.loadAt, Instr.sureAddr] using hv
      have hone : (resOne a.tmps (.cell c T)).run P w = .ok v w := by simp [resOne, hev, asAddr, hv']
      rw [List.mapM_cons, Sem.run_bind, hone, Result.andThen_ok, Sem.run_bind, hvs]; rfl

theorem run_results {P : Program} {H : Hn} {n : Nat} {fn : Func} {st : St} {h : Heap} {Q : Value → Heap → Prop} {β : Nat → Nat} {a : Act} {w : World} (r : Rep n st h β a w) (hk : resVals P H st h fn.results.toList fun vs => Q (retV vs) h) :
    ∃ v, (results fn a.tmps).run P w = .ok v w ∧ Q v h := by
  obtain ⟨vs, hvs, hq⟩ := resVals_ok r _ _ hk
  have hdef : results fn a.tmps = (do
      let vs ← fn.results.mapM (resOne a.tmps)
      pure (if h : vs.size = 1 then vs[0] else .tuple vs)) := rfl
  rw [hdef]
  rw [Array.mapM_eq_mapM_toList, Sem.run_bind, Sem.run_map, hvs, Result.andThen_ok, Result.andThen_ok]
  rcases vs with _ | ⟨v, _ | ⟨u, vs⟩⟩
  · exact ⟨_, by simp [retV], hq⟩
  · exact ⟨v, by simp, hq⟩
  · exact ⟨_, by simp [retV], hq⟩

/-- A block of the heap is let go, whatever becomes of it. -/
theorem Rep.hdel {n : Nat} {st : St} {h : Heap} {β : Nat → Nat} {a : Act} {w : World} (r : Rep n st h β a w) {b : Nat} (hb : h b ≠ none) (o : Obj) : Rep n st (h.del b) β a (w.putObj b o) := by
  refine ⟨r.size, r.env, r.held, ?_, r.inj, ?_, r.defers⟩
  · intro k cs hk
    obtain ⟨hn, T, hT⟩ := r.priv k cs hk
    have hne : β k ≠ b := fun e => hb (by rw [← e]; exact hn)
    exact ⟨by unfold Heap.del; rw [if_neg hne]; exact hn, T, (World.putObj_heap_other hne).trans hT⟩
  · intro k o' hk
    unfold Heap.del at hk
    by_cases e : k = b
    · rw [if_pos e] at hk; cases hk
    · rw [if_neg e] at hk; rw [World.putObj_heap_other e]; exact r.sub k o' hk

theorem PostP.hdel (st : St) (β : Nat → Nat) {h : Heap} {w : World} (hs : Sub h w) {b : Nat} (hb : h b ≠ none) (o : Obj) : PostP st β h w (h.del b) (w.putObj b o) := by
  refine ⟨?_, by simp [World.putObj], ?_, ?_, rfl, rfl, rfl⟩
  · intro k o' hk
    unfold Heap.del at hk
    by_cases e : k = b
    · rw [if_pos e] at hk; cases hk
    · rw [if_neg e] at hk; rw [World.putObj_heap_other e]; exact hs k o' hk
  · intro k _ hn _
    exact World.putObj_heap_other fun e => hb (by rw [← e]; exact hn)
  · intro k hk
    unfold Heap.del at hk
    by_cases e : k = b
    · rw [if_pos e] at hk; exact absurd rfl hk
    · rw [if_neg e] at hk; exact .inl hk

theorem TW.leave {P : Program} {H : Hn} {f n : Nat} {fn : Func} {todo : List Item} {st : St} {h : Heap} {Q : Value → Heap → Prop} (on : Bool) (hf : P.funcs[f]? = some fn) (hk : xsRet P H fn st h on Q)
    (hstep : ∀ (m : Mk) a cs w, m.calm = true → step P (lone ((baseF m f).atR a todo) cs w) = .next (lone { (baseF m f).atR a todo with mode := .returning } cs w))
    (htodo : ∀ (l : Nat) (a : Act), Ends P (.round l) f ((baseF (.round l) f).atR a todo) default (.bool on)) : TW P f n todo st h Q := by
  intro β a w r cs
  unfold xsRet at hk
  have hd := r.defers
  cases hm : st.md with
  | plain =>
    rw [hm] at hk hd
    obtain ⟨v, hv, hq⟩ := run_results r hk
    exact ⟨v, h, w, _, hq, ⟨r.sub, Nat.le_refl _, fun _ _ _ _ => rfl, fun _ hk => .inl hk, rfl, rfl, rfl⟩, .one (hstep _ _ _ _ rfl), rfl, rfl, hd, rfl, fn, hf, hv⟩
  | marked D =>
    rw [hm] at hk hd
    obtain ⟨hD, hk⟩ := hk
    have hne : h D ≠ none := by rw [hD]; simp
    obtain ⟨v, hv, hq⟩ := run_results (r.hdel hne (.deferred none)) hk
    refine ⟨v, h.del D, w.putObj D (.deferred none), _, hq, PostP.hdel st β r.sub hne _, .head (hstep _ _ _ _ rfl) (.one (step_collected (r := D) (ds := []) (by simp) hd rfl (run_takeDeferred (r.sub D _ hD)))), rfl, rfl, rfl, rfl, fn, hf, hv⟩
  | round l =>
    rw [hm] at hk
    exact ⟨_, h, w, _, hk, ⟨r.sub, Nat.le_refl _, fun _ _ _ _ => rfl, fun _ hk => .inl hk, rfl, rfl, rfl⟩, .refl _ _, htodo l a⟩

theorem TW.ret {P : Program} {H : Hn} {f n : Nat} {fn : Func} {k : List Item} {st : St} {h : Heap} {Q : Value → Heap → Prop} (hf : P.funcs[f]? = some fn) (hk : xsRet P H fn st h false Q) : TW P f n (.code .ret :: k) st h Q :=
  .leave false hf hk (fun m a cs w hm => stepR_ret (by unfold baseF; cases m <;> first | rfl | cases hm)) fun _ a => ⟨a, .inr ⟨rfl, k, rfl⟩⟩

theorem TW.nil {P : Program} {H : Hn} {f n : Nat} {fn : Func} {st : St} {h : Heap} {Q : Value → Heap → Prop} (hf : P.funcs[f]? = some fn) (hk : xsRet P H fn st h true Q) : TW P f n [] st h Q :=
  .leave true hf hk (fun m a cs w hm => stepR_end (by unfold baseF; cases m <;> first | rfl | cases hm)) fun _ a => ⟨a, .inl ⟨rfl, rfl⟩⟩

/-- The beginning of a round: the record is busy. -/
theorem TW.beginRound {P : Program} {f n l : Nat} {k : List Item} {st : St} {h : Heap} {Q : Value → Heap → Prop} {r : Loop} (hm : st.md = .round l) (hl : h l = some (.loop r)) (hr : r.state = .ready)
    (t : TW P f n k st (upd h l (.loop { r with state := .busy })) Q) : TW P f n (.beginRound :: k) st h Q := by
  intro β a w rp cs
  have hne : h l ≠ none := by rw [hl]; simp
  obtain ⟨v, h', w', fr, q, p, hs, hlv⟩ := t β a _ (rp.hset hne _) cs
  refine ⟨v, h', w', fr, q, (Mid.hset hne _).post p, .head (stepR_beginRound (l := l) (by rw [hm]; rfl) (run_beginRound (rp.sub _ _ hl) hr)) hs, hlv⟩

/-! What is kept of a state at a cut. -/

def keepE (st : St) (pr : List Nat) : List Nat → List (Nat × XV)
  | [] => []
  | t :: r => match st.get t with
    | .v x => (t, .v x) :: keepE st pr r
    | .p k off => match memN pr k with
      | true => (t, .p k off) :: keepE st pr r
      | false => keepE st pr r
    | .dead => keepE st pr r

def keepP (st : St) : List Nat → List (Nat × List Value)
  | [] => []
  | k :: r => match st.pget k with
    | some cs => (k, cs) :: keepP st r
    | none => keepP st r

def St.keep (st : St) (vs pr : List Nat) : St := ⟨keepE st pr vs, keepP st pr, st.md⟩

theorem getE_keepE (st : St) (pr : List Nat) (l : List Nat) (t : Nat) : getE (keepE st pr l) t = .dead ∨ (getE (keepE st pr l) t = st.get t ∧ ∀ k off, st.get t = .p k off → memN pr k = true) := by
  induction l with
  | nil => exact .inl rfl
  | cons u r ih =>
    unfold keepE
    split
    · rename_i x hx
      unfold getE
      by_cases e : u = t
      · subst e; rw [Nat.beq_refl]; right; exact ⟨hx.symm, fun k off h => by rw [hx] at h; cases h⟩
      · rw [beq_ne e]; exact ih
    · rename_i k off hx
      split
      · rename_i hm
        unfold getE
        by_cases e : u = t
        · subst e; rw [Nat.beq_refl]; right; exact ⟨hx.symm, fun k' off' h => by rw [hx] at h; cases h; exact hm⟩
        · rw [beq_ne e]; exact ih
      · exact ih
    · exact ih

theorem getP_keepP (st : St) (l : List Nat) (k : Nat) : getP (keepP st l) k = none ∨ getP (keepP st l) k = st.pget k := by
  induction l with
  | nil => exact .inl rfl
  | cons u r ih =>
    unfold keepP
    split
    · rename_i cs hcs
      unfold getP
      by_cases e : u = k
      · subst e; rw [Nat.beq_refl]; exact .inr hcs.symm
      · rw [beq_ne e]; exact ih
    · exact ih

theorem getP_keepP_mem (st : St) (l : List Nat) (k : Nat) (hm : memN l k = true) (hk : st.pget k ≠ none) : getP (keepP st l) k ≠ none := by
  induction l with
  | nil => cases hm
  | cons u r ih =>
    unfold memN at hm
    unfold keepP
    by_cases e : u = k
    · subst e
      cases hc : st.pget u with
      | none => exact absurd hc hk
      | some cs => dsimp only; unfold getP; rw [Nat.beq_refl]; simp
    · rw [beq_ne e] at hm
      have := ih hm
      split
      · unfold getP; rw [beq_ne e]; exact this
      · exact this

theorem TW.keep {P : Program} {f n : Nat} {todo : List Item} {st : St} {h : Heap} {Q : Value → Heap → Prop} (vs pr : List Nat) (t : TW P f n todo (st.keep vs pr) h Q) : TW P f n todo st h Q := by
  refine .weaken (st' := st.keep vs pr) rfl ?_ ?_ ?_ t
  · intro u
    rcases getE_keepE st pr vs u with h1 | h1
    · exact .inl h1
    · exact .inr h1.1
  · intro k; exact getP_keepP st pr k
  · intro u k off hu hk
    have hu' : getE (keepE st pr vs) u = .p k off := hu
    rcases getE_keepE st pr vs u with h1 | ⟨h1, h2⟩
    · rw [h1] at hu'; cases hu'
    · rw [h1] at hu'
      exact getP_keepP_mem st pr k (h2 k off hu') hk

/-! The run over what is left to do. -/

/-- Where a run is cut: at a region's number (or at a loop: the number of its body's first region): what is kept. -/
structure Cut where
  at_ : Nat
  vs : List Nat
  pr : List Nat

def findCut : List Cut → Nat → Option Cut
  | [], _ => none
  | c :: r, t => match Nat.beq c.at_ t with
    | true => some c
    | false => findCut r t

/-- The number of the first region of some code. -/
def firstRegion : Code → Option Nat
  | .region id _ _ => some id
  | .seq a b => match firstRegion a with
    | some k => some k
    | none => firstRegion b
  | .block _ c => firstRegion c
  | .loop c => firstRegion c
  | .scope c => firstRegion c
  | .cond _ a b => match firstRegion a with
    | some k => some k
    | none => firstRegion b
  | _ => none

def cutAt (cuts : List Cut) (o : Option Nat) : Option Cut :=
  match o with
  | some k => findCut cuts k
  | none => none

def findDraw : List Dr → Nat → Option Dr
  | [], _ => none
  | c :: r, t => match Nat.beq c.at_ t with
    | true => some c
    | false => findDraw r t

def xs (P : Program) (H : Hn) (f n : Nat) (fn : Func) (lcuts rcuts : List Cut) : Nat → List Item → St → Heap → (Value → Heap → Prop) → Prop
  | 0, _, _, _, _ => False
  | m + 1, todo, st, h, Q => match todo with
    | [] => xsRet P H fn st h true Q
    | .code c :: k => match c with
      | .ret => xsRet P H fn st h false Q
      | .skip => xs P H f n fn lcuts rcuts m k st h Q
      | .label _ => xs P H f n fn lcuts rcuts m k st h Q
      | .seq a b => xs P H f n fn lcuts rcuts m (.code a :: .code b :: k) st h Q
      | .block id b => xs P H f n fn lcuts rcuts m (.code b :: .inBlock id :: k) st h Q
      | .exit id => match exitTo id k with
        | some k' => xs P H f n fn lcuts rcuts m k' st h Q
        | none => False
      | .scope b => xs P H f n fn lcuts rcuts m (.code b :: .inScope b :: k) st h Q
      | .goto l => match gotoIn l k with
        | some k' => xs P H f n fn lcuts rcuts m k' st h Q
        | none => False
      | .cond c a b => match st.opd c with
        | .v (.bool t) => xsIf t (xs P H f n fn lcuts rcuts m (.code a :: k) st h Q) (xs P H f n fn lcuts rcuts m (.code b :: k) st h Q)
        | _ => False
      | .loop b => match cutAt lcuts (firstRegion b) with
        | some ct => TW P f n (.code b :: .inLoop b :: k) (st.keep ct.vs ct.pr) h Q
        | none => False
      | .region id ops draw => match findCut rcuts id with
        | some ct => TW P f n todo (st.keep ct.vs ct.pr) h Q
        | none => match draw with
          | false => xsOps P H n ops.toList (List.range ops.size) st h fun st' h' => xs P H f n fn lcuts rcuts m k st' h' Q
          | true => match findDraw H.draws id with
            | none => False
            | some dr => match noSel ops.toList with
              | false => False
              | true => match edgesOk ops.size ops.toList with
                | false => False
                | true => match Nat.beq dr.order.len ops.size && st.md.calm with
                  | false => False
                  | true => xsD P H n ops dr.wr dr.order 0 0 st h fun st' h' => xs P H f n fn lcuts rcuts m k st' h' Q
      | .rangeFunc _ _ _ b => match cutAt lcuts (firstRegion b) with
        | some ct => TW P f n todo (st.keep ct.vs ct.pr) h Q
        | none => False
      | _ => False
    | .beginRound :: k => match st.md with
      | .round l => ∃ r : Loop, h l = some (.loop r) ∧ r.state = .ready ∧ xs P H f n fn lcuts rcuts m k st (upd h l (.loop { r with state := .busy })) Q
      | _ => False
    | .inBlock _ :: k => xs P H f n fn lcuts rcuts m k st h Q
    | .inScope _ :: k => xs P H f n fn lcuts rcuts m k st h Q
    | .inLoop b :: k => match cutAt lcuts (firstRegion b) with
      | some ct => TW P f n (.code b :: .inLoop b :: k) (st.keep ct.vs ct.pr) h Q
      | none => False
    | _ => False

theorem xs_ok {P : Program} {H : Hn} {f n : Nat} {fn : Func} {lcuts rcuts : List Cut} {Q : Value → Heap → Prop} (hm : P.follows .mixedOrders = true) (hf : P.funcs[f]? = some fn) (m : Nat) : ∀ (todo : List Item) (st : St) (h : Heap),
    xs P H f n fn lcuts rcuts m todo st h Q → TW P f n todo st h Q := by
  induction m with
  | zero => intro todo st h hk; exact hk.elim
  | succ m ih =>
    intro todo st h hk
    unfold xs at hk
    split at hk
    · exact .nil hf hk
    · split at hk
      · exact .ret hf hk
      · exact .skip (ih _ _ _ hk)
      · exact .label (ih _ _ _ hk)
      · exact .seq (ih _ _ _ hk)
      · exact .block (ih _ _ _ hk)
      · split at hk
        · rename_i he
          exact .exit he (ih _ _ _ hk)
        · exact hk.elim
      · exact .scope (ih _ _ _ hk)
      · split at hk
        · rename_i he
          exact .goto he (ih _ _ _ hk)
        · exact hk.elim
      · split at hk
        · rename_i t hc
          obtain ⟨h1, h2⟩ := xsIf_iff.1 hk
          clear hk
          cases t with
          | true => exact .cond hc (by simpa using ih _ _ _ (h1 rfl))
          | false => exact .cond hc (by simpa using ih _ _ _ (h2 rfl))
        · exact hk.elim
      · split at hk
        · exact .loop (TW.keep _ _ hk)
        · exact hk.elim
      · split at hk
        · exact TW.keep _ _ hk
        · split at hk
          · exact .region (xsOps_ok (fun st h hk => ih _ _ _ hk) _ _ _ hk)
          · split at hk
            · exact hk.elim
            · split at hk
              · exact hk.elim
              · rename_i hns
                split at hk
                · exact hk.elim
                · rename_i hed
                  split at hk
                  · exact hk.elim
                  · rename_i hlen
                    obtain ⟨hlen, hcalm⟩ := (Bool.and_eq_true _ _).mp hlen
                    exact .draw _ hm hns hed (Nat.eq_of_beq_eq_true hlen) hcalm (fun st h hk => ih _ _ _ hk) hk
      · split at hk
        · exact TW.keep _ _ hk
        · exact hk.elim
      · exact hk.elim
    · split at hk
      · rename_i l hmk
        obtain ⟨r, h1, h2, h3⟩ := hk
        exact .beginRound hmk h1 h2 (ih _ _ _ h3)
      · exact hk.elim
    · exact .inBlock (ih _ _ _ hk)
    · exact .inScope (ih _ _ _ hk)
    · split at hk
      · exact .inLoop (TW.keep _ _ hk)
      · exact hk.elim
    · exact hk.elim

/-- A function's contract, from its run. -/
theorem C_of_xs {P : Program} {H : Hn} {f : Nat} {fn : Func} {c : Code} {lcuts rcuts : List Cut} {l : List Value} {h : Heap} {Q : Value → Heap → Prop} (m : Nat) (hm : P.follows .mixedOrders = true)
    (hf : P.funcs[f]? = some fn) (hb : fn.body = some c) (hn : Nat.ble l.length fn.ntmps = true)
    (hk : xs P H f fn.ntmps fn lcuts rcuts m [.code c] ⟨argEnv 0 l, [], .plain⟩ h Q) : C P f l.toArray h Q :=
  C_of_TW hf hb (Nat.le_of_ble_eq_true hn) (xs_ok hm hf m _ _ _ hk)

end Go.Gb
namespace Go.Gb

/-- A part of some code. -/
def cAt : Code → List Nat → Code
  | c, [] => c
  | .seq a _, 0 :: r => cAt a r
  | .seq _ b, _ :: r => cAt b r
  | .cond _ a _, 0 :: r => cAt a r
  | .cond _ _ b, _ :: r => cAt b r
  | .block _ c, _ :: r => cAt c r
  | .loop c, _ :: r => cAt c r
  | .scope c, _ :: r => cAt c r
  | .rangeFunc _ _ a _, 0 :: r => cAt a r
  | .rangeFunc _ _ _ b, _ :: r => cAt b r
  | c, _ => c

def bodyOf (fn : Func) : Code :=
  match fn.body with
  | some c => c
  | none => .skip

end Go.Gb
namespace Go.Gb

/-! A range over a function. -/

/-- The record of a loop over a function. -/
def loopO (f : FuncId) (tmps : Array Value) (ps : Array Tmp) (assign body : Code) (D : Nat) (s : LoopState) (p : Option Code) : Loop :=
  { state := s, pending := p, fn := f, tmps, params := ps, assign, body, defers := D }

/-- What the temporaries are known to be. -/
def EnvOk (env : List (Nat × XV)) (tmps : Array Value) : Prop := ∀ t, getE env t = .dead ∨ ∃ y, tmps[t]? = some y ∧ getE env t = .v y

theorem TW.rangeFunc {P : Program} {f n : Nat} {g : Operand} {ps : Array Tmp} {assign body : Code} {k : List Item} {env : List (Nat × XV)} {h : Heap} {Q : Value → Heap → Prop} {gf : FuncId} {cap : Array Value}
    (hg : St.opd ⟨env, [], .plain⟩ g = .v (.func (.func gf) #[] cap)) (hgo : goOk P gf = true) (henv : ∀ t k off, getE env t ≠ .p k off)
    (t : ∀ D l tmps, D ≠ l → h D = none → h l = none → tmps.size = n → EnvOk env tmps →
      C P gf (Value.func (.yield l) #[] #[] :: cap.toList).toArray (upd (upd h D (.deferred (some []))) l (.loop (loopO f tmps ps assign body D .ready none))) fun _ h' =>
        ∃ r', h' l = some (.loop r') ∧ r'.state ≠ .busy ∧ match r'.pending with
          | none => TW P f n k ⟨env, [], .marked D⟩ (h'.del l) Q
          | some c => TW P f n (.code c :: k) ⟨env, [], .marked D⟩ (h'.del l) Q) :
    TW P f n (.code (.rangeFunc g ps assign body) :: k) ⟨env, [], .plain⟩ h Q := by
  intro β a w r cs
  have hfree : ∀ j, w.heap.size ≤ j → h j = none := by
    intro j hj
    cases hh : h j with
    | none => rfl
    | some o => have := lt_of_heap (r.sub _ _ hh); omega
  have hev : a.eval g = .func (.func gf) #[] cap := by
    rcases r.opd g with h1 | h1
    · rw [hg] at h1; cases h1
    · rw [hg] at h1; exact h1
  have henvok : EnvOk env a.tmps := by
    intro u
    rcases r.env u with h1 | ⟨y, hy, hi⟩
    · exact .inl h1
    · have hgu : St.get ⟨env, [], .plain⟩ u = getE env u := rfl
      rw [hgu] at hi
      cases hx : getE env u with
      | v x => rw [hx] at hi; right; exact ⟨y, hy, by rw [show y = x from hi]⟩
      | p k off => exact absurd hx (henv u k off)
      | dead => exact .inl rfl
  have hda : a.defers = [] := r.defers
  obtain ⟨D, hD⟩ : ∃ D, w.heap.size = D := ⟨_, rfl⟩
  obtain ⟨w1, hw1⟩ : ∃ w1, (w.alloc (.deferred (some []))).alloc (.loop (loopO f a.tmps ps assign body D .ready none)) = w1 := ⟨_, rfl⟩
  have he : (Instr.enterLoop (baseF .plain f).fn a.tmps ps assign body (baseF .plain f).roundOf).run P w = .ok (D + 1, [{ target := .collected D, args := #[] }]) w1 := by
    rw [← hw1, ← hD]; exact run_enterLoop_outer _ _ _ _ _
  have hsz1 : w1.heap.size = D + 2 := by rw [← hw1, World.size_alloc, World.size_alloc, hD]
  have hget : ∀ k, w1.heap[k]? = if k = D + 1 then some (.loop (loopO f a.tmps ps assign body D .ready none)) else if k = D then some (.deferred (some [])) else w.heap[k]? := by
    intro k
    rw [← hw1, heap_alloc, World.size_alloc, heap_alloc, hD]
  have hs1 : Sub (upd (upd h D (.deferred (some []))) (D + 1) (.loop (loopO f a.tmps ps assign body D .ready none))) w1 := by
    intro k o hk
    rw [hget]
    unfold upd at hk
    by_cases e1 : k = D + 1
    · rw [if_pos e1] at hk ⊢; exact hk
    · rw [if_neg e1] at hk ⊢
      by_cases e2 : k = D
      · rw [if_pos e2] at hk ⊢; exact hk
      · rw [if_neg e2] at hk ⊢; exact r.sub k o hk
  have hres : (resolve a.eval (rangeCall g (D + 1)) 0).run P w1 = .ok { target := .fn (.func gf) cap, args := #[.func (.yield (D + 1)) #[] #[]] } w1 := by
    simp only [resolve, hev]
    simp [go_sem]
  have hinv : (invoke (.fn (.func gf) cap) #[.func (.yield (D + 1)) #[] #[]]).run P w1 = .ok (.enter gf (Value.func (.yield (D + 1)) #[] #[] :: cap.toList).toArray) w1 := by
    unfold invoke
    dsimp only
    rw [goOk_ok hgo]
    congr 2
    apply Array.ext'
    simp
  have henter := stepR_rangeFunc (P := P) (b := baseF .plain f) (a := a) (k := k) (cs := cs) (w := w) he hres hinv
  obtain ⟨e, w2, fr, ⟨v, h', rfl, ⟨r', hl', hnb, hk⟩, p⟩, hcomes, _, hleave⟩ := t D (D + 1) a.tmps (by omega) (hfree D (by omega)) (hfree (D + 1) (by omega)) r.size henvok w1 hs1
    ((baseF .plain f).atR { a with defers := [{ target := .collected D, args := #[] }] ++ a.defers } (.inRangeFunc (D + 1) :: k) :: cs)
  have hback := step_leave_returned (c := (baseF .plain f).atR { a with defers := [{ target := .collected D, args := #[] }] ++ a.defers } (.inRangeFunc (D + 1) :: k)) (cs := cs) hleave
  rw [finish_atR_inRangeFunc] at hback
  have hwl : w2.heap[D + 1]? = some (.loop r') := p.sub _ _ hl'
  have hend := stepR_endRangeFunc (P := P) (b := baseF .plain f) (a := { a with defers := [{ target := .collected D, args := #[] }] ++ a.defers }) (k := k) (cs := cs) (run_endLoop (P := P) hwl hnb)
  have rep : ∀ hd : Heap, hd = h'.del (D + 1) → Rep n ⟨env, [], .marked D⟩ hd β { a with defers := [{ target := .collected D, args := #[] }] ++ a.defers } (w2.putObj (D + 1) (.loop { r' with state := .exhausted })) := by
    rintro _ rfl
    refine ⟨r.size, r.env, fun t k off hh => absurd hh (henv t k off), (fun k cs hk => (by cases hk)), (fun k k' hk => absurd rfl hk), ?_, ?_⟩
    · intro k o hk
      unfold Heap.del at hk
      by_cases e : k = D + 1
      · rw [if_pos e] at hk; cases hk
      · rw [if_neg e] at hk; rw [World.putObj_heap_other e]; exact p.sub k o hk
    · show [({ target := .collected D, args := #[] } : Deferred)] ++ a.defers = [{ target := .collected D, args := #[] }]
      rw [hda]; rfl
  have hsteps := Steps.head henter (Steps.trans hcomes (.head hback (.one hend)))
  have fin : ∀ todo', Steps P (lone ((baseF .plain f).atR a (.code (.rangeFunc g ps assign body) :: k)) cs w)
      (lone ((baseF .plain f).atR { a with defers := [{ target := .collected D, args := #[] }] ++ a.defers } todo') cs (w2.putObj (D + 1) (.loop { r' with state := .exhausted }))) →
      TW P f n todo' ⟨env, [], .marked D⟩ (h'.del (D + 1)) Q →
      ∃ v h' w' fr, Q v h' ∧ PostP ⟨env, [], .plain⟩ β h w h' w' ∧ Steps P (lone ((baseF .plain f).atR a (.code (.rangeFunc g ps assign body) :: k)) cs w) (lone fr cs w') ∧ Ends P .plain f fr w' v := by
    intro todo' hst hk
    obtain ⟨v, h'', w3, fr', q, pp, hs, hlv⟩ := hk β _ _ (rep _ rfl) cs
    refine ⟨v, h'', w3, fr', q, ?_, Steps.trans hst hs, hlv⟩
    have hps : (w2.putObj (D + 1) (.loop { r' with state := .exhausted })).heap.size = w2.heap.size := by simp [World.putObj]
    have hle := p.size
    refine ⟨pp.sub, by have := pp.size; omega, ?_, ?_, pp.os.trans ?_, pp.output.trans ?_, pp.tape.trans ?_⟩
    · intro j hj hn _
      have hj1 : j ≠ D + 1 := by omega
      have hj2 : j ≠ D := by omega
      have h1n : (upd (upd h D (.deferred (some []))) (D + 1) (.loop (loopO f a.tmps ps assign body D .ready none))) j = none := by
        unfold upd; rw [if_neg hj1, if_neg hj2]; exact hn
      have h'n : h' j = none := by
        cases hh : h' j with
        | none => rfl
        | some o =>
          rcases p.dom j (by rw [hh]; simp) with h2 | h2
          · exact absurd h1n h2
          · omega
      rw [pp.frame j (by omega) (by unfold Heap.del; rw [if_neg hj1]; exact h'n) (fun i hi => absurd rfl hi), World.putObj_heap_other hj1, p.frame j (by omega) h1n, hget, if_neg hj1, if_neg hj2]
    · intro j hj
      rcases pp.dom j hj with h2 | h2
      · unfold Heap.del at h2
        by_cases e : j = D + 1
        · exact .inr (by omega)
        · rw [if_neg e] at h2
          rcases p.dom j h2 with h3 | h3
          · unfold upd at h3
            rw [if_neg e] at h3
            by_cases e2 : j = D
            · exact .inr (by omega)
            · rw [if_neg e2] at h3; exact .inl h3
          · exact .inr (by omega)
      · exact .inr (by omega)
    · rw [← show w1.os = w.os by rw [← hw1]; rfl]; exact p.os
    · rw [← show w1.output = w.output by rw [← hw1]; rfl]; exact p.output
    · rw [← show w1.tape = w.tape by rw [← hw1]; rfl]; exact p.tape
  cases hp : r'.pending with
  | none =>
    rw [show (r'.pending.map Item.code).toList ++ k = k by rw [hp]; rfl] at hsteps
    rw [hp] at hk; exact fin _ hsteps hk
  | some c =>
    rw [show (r'.pending.map Item.code).toList ++ k = .code c :: k by rw [hp]; rfl] at hsteps
    rw [hp] at hk; exact fin _ hsteps hk

/-- A round, from its body's run. -/
theorem Y.of_TW {P : Program} {l n : Nat} {args : List Value} {h : Heap} {Q : Value → Heap → Prop} {r : Loop} {env : List (Nat × XV)} (hl : h l = some (.loop r)) (hn : args.length = r.params.size)
    (hsz : ((r.params.zip args.toArray).foldl (fun (tmps : Array Value) (x : Tmp × Value) => tmps.setIfInBounds x.1 x.2) r.tmps).size = n)
    (he : EnvOk env ((r.params.zip args.toArray).foldl (fun (tmps : Array Value) (x : Tmp × Value) => tmps.setIfInBounds x.1 x.2) r.tmps))
    (t : TW P r.fn n [.code r.assign, .beginRound, .code r.body] ⟨env, [], .round l⟩ h fun v h' => ∃ r' : Loop, h' l = some (.loop r') ∧
      ((v = .bool true ∧ Q (.bool true) (upd h' l (.loop { r' with state := .ready, pending := none }))) ∨ (v = .bool false ∧ Q (.bool false) (upd h' l (.loop { r' with state := .done, pending := some .ret }))))) :
    Y P l args h Q := by
  refine ⟨r, hl, hn, ?_⟩
  intro w hs c cs
  obtain ⟨tmps, ht⟩ : ∃ tmps, ((r.params.zip args.toArray).foldl (fun (tmps : Array Value) (x : Tmp × Value) => tmps.setIfInBounds x.1 x.2) r.tmps) = tmps := ⟨_, rfl⟩
  have ht' : ((r.params.zip args.toArray).foldl (fun (tmps : Array Value) (t, a) => tmps.setIfInBounds t a) r.tmps) = tmps := ht
  rw [ht']
  rw [ht] at hsz he
  have hfr : Frame.round l r.fn tmps r.assign r.body .normal = (baseF (.round l) r.fn).atR { tmps := tmps, defers := [] } [.code r.assign, .beginRound, .code r.body] := by
    simp [Frame.round, Frame.atR, baseF, Mk.roundOf]
  rw [hfr]
  have hne : h l ≠ none := by rw [hl]; simp
  have rep : Rep n ⟨env, [], .round l⟩ h (fun _ => 0) { tmps := tmps, defers := [] } w := by
    refine ⟨hsz, ?_, ?_, (fun k cs hk => (by cases hk)), (fun k k' hk => absurd rfl hk), hs, rfl⟩
    · intro u
      rcases he u with h1 | ⟨y, hy, hg⟩
      · exact .inl h1
      · right; refine ⟨y, hy, ?_⟩; show XV.is _ (getE env u) y; rw [hg]; rfl
    · intro u k off hu
      have hu' : getE env u = .p k off := hu
      rcases he u with h1 | ⟨y, hy, hg⟩
      · rw [h1] at hu'; cases hu'
      · rw [hg] at hu'; cases hu'
  obtain ⟨v, h', w', fr, ⟨r', hl', hq⟩, p, hst, hends⟩ := t _ _ w rep (c :: cs)
  have hwl := p.sub _ _ hl'
  have hlt := lt_of_heap hwl
  have post : ∀ o : Obj, Post h w (upd h' l o) (w'.putObj l o) := by
    intro o
    refine ⟨?_, by have := p.size; simpa [World.putObj] using this, ?_, ?_, p.os, p.output, p.tape⟩
    · intro k o' hk
      unfold upd at hk
      by_cases e : k = l
      · rw [if_pos e] at hk; cases hk; subst e; exact World.putObj_heap_same hlt
      · rw [if_neg e] at hk; rw [World.putObj_heap_other e]; exact p.sub k o' hk
    · intro k hk hn
      have e : k ≠ l := fun e => hne (by rw [← e]; exact hn)
      rw [World.putObj_heap_other e]
      exact p.frame k hk hn fun i hi => absurd rfl hi
    · intro k hk
      unfold upd at hk
      by_cases e : k = l
      · exact .inl (by rw [e]; exact hne)
      · rw [if_neg e] at hk; exact p.dom k hk
  obtain ⟨a', he' | he'⟩ := hends
  · obtain ⟨hv, hfr'⟩ := he'
    rcases hq with ⟨_, hq⟩ | ⟨hv2, _⟩
    · refine ⟨_, _, _, hq, post _, Steps.trans hst ?_⟩
      rw [hfr']
      exact .one (stepR_round_end (l := l) rfl rfl (by have := run_endRound (P := P) none hwl; exact this))
    · rw [hv] at hv2; cases hv2
  · obtain ⟨hv, k', hfr'⟩ := he'
    rcases hq with ⟨hv2, _⟩ | ⟨_, hq⟩
    · rw [hv] at hv2; cases hv2
    · refine ⟨_, _, _, hq, post _, Steps.trans hst ?_⟩
      rw [hfr']
      exact .one (stepR_round_ret (l := l) rfl rfl (by have := run_endRound (P := P) (some .ret) hwl; exact this))

theorem Heap.del_ne {h : Heap} {b k : Nat} (e : k ≠ b) : h.del b k = h k := by unfold Heap.del; rw [if_neg e]
theorem EnvOk.one {env : List (Nat × XV)} {tmps : Array Value} (he : EnvOk env tmps) {p : Nat} (hp : p < tmps.size) (v : Value) : EnvOk ((p, .v v) :: env) (tmps.setIfInBounds p v) := by
  intro u
  unfold getE
  by_cases e : p = u
  · subst e; rw [Nat.beq_refl]; right; exact ⟨v, Array.getElem?_setIfInBounds_self_of_lt hp, rfl⟩
  · rw [beq_ne e]
    rcases he u with h1 | ⟨y, hy, hg⟩
    · exact .inl h1
    · right; exact ⟨y, by rw [Array.getElem?_setIfInBounds_ne e]; exact hy, hg⟩

/-- A round of a loop with one variable. -/
theorem Y.one {P : Program} {f n l p D : Nat} {tmps : Array Value} {assign body : Code} {v : Value} {h : Heap} {Q : Value → Heap → Prop} {env : List (Nat × XV)}
    (hl : h l = some (.loop (loopO f tmps #[p] assign body D .ready none))) (hsz : tmps.size = n) (hp : p < n) (he : EnvOk env tmps)
    (t : TW P f n [.code assign, .beginRound, .code body] ⟨(p, .v v) :: env, [], .round l⟩ h fun x h' => ∃ r' : Loop, h' l = some (.loop r') ∧
      ((x = .bool true ∧ Q (.bool true) (upd h' l (.loop { r' with state := .ready, pending := none }))) ∨ (x = .bool false ∧ Q (.bool false) (upd h' l (.loop { r' with state := .done, pending := some .ret }))))) :
    Y P l [v] h Q := by
  have e : (((loopO f tmps #[p] assign body D .ready none).params.zip [v].toArray).foldl (fun (tmps : Array Value) (x : Tmp × Value) => tmps.setIfInBounds x.1 x.2) (loopO f tmps #[p] assign body D .ready none).tmps) = tmps.setIfInBounds p v := by
    simp [loopO]
  refine Y.of_TW (r := loopO f tmps #[p] assign body D .ready none) (n := n) hl rfl ?_ (env := (p, .v v) :: env) ?_ t
  · rw [e]; simp [hsz]
  · rw [e]; exact he.one (by omega) v

end Go.Gb
