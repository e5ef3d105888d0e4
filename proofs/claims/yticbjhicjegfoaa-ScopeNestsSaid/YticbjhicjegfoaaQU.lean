/- A region that draws its order, whose last operation may turn what the others read. -/
import Derived.Test.YticbjhicjegfoaaQb
import Derived.OrdersHeld
import Derived.RegionTactic
import Derived.Deep.QuietTactic
import Derived.BigQuiet
import Derived.Below
import Derived.WalkKit
namespace Go.Proofs.Yticbjhicjegfoaa.Q
open Go.RowKit

section
variable {P : Program} {md : Region.Mode} {ops : Array Oper} {Q : Exit → Act → World → Prop} {S : World → Prop} {lasts : List Nat}
/-- Whatever order is picked, S holds behind each operation but the last one. -/
def wpAnyU (P : Program) (md : Region.Mode) (ops : Array Oper) (Q : Exit → Act → World → Prop) (S : World → Prop) (lasts : List Nat) : Nat → Array Bool → Act → World → Prop
  | 0, listed, a, w => Region.ready md ops listed = [] ∧ Q .normal a w
  | fuel + 1, listed, a, w => (Region.ready md ops listed = [] → Q .normal a w) ∧
      ∀ j ∈ Region.ready md ops listed, wpOp P ops Q j (fun a' w' => (j ∈ lasts ∨ S w') ∧ wpAnyU P md ops Q S lasts fuel (listed.setIfInBounds j true) a' w') a w

theorem wpAnyU_any : ∀ {fuel : Nat} {listed : Array Bool} {a : Act} {w : World}, wpAnyU P md ops Q S lasts fuel listed a w → wpAny P md ops Q fuel listed a w
  | 0, _, _, _, h => h
  | _ + 1, _, _, _, h => ⟨h.1, fun j hj => wpOp_mono (fun _ _ g => wpAnyU_any g.2) (h.2 j hj)⟩

theorem unlisted_of {i : Nat} {listed : Array Bool} (h0 : listed.getD i true = false) (h1 : listed.getD i false = true) : False := by
  rcases Nat.lt_or_ge i listed.size with h | h
  · simp [h] at h0 h1
    rw [h0] at h1
    cases h1
  · simp [Array.getElem?_eq_none h] at h1

/-- Each operation that came up came up behind what it waits for. -/
def Closed (md : Region.Mode) (ops : Array Oper) (listed : Array Bool) : Prop :=
  ∀ (k : Nat) (o : Oper), ops[k]? = some o → listed.getD k false = true → ∀ e ∈ o.after, Region.binds md e = true → listed.getD e.on false = true
def closedB (md : Region.Mode) (ops : Array Oper) (listed : Array Bool) : Bool :=
  (List.range ops.size).all fun k => !listed.getD k false || (ops[k]?).all fun o => o.after.toList.all fun e => !Region.binds md e || listed.getD e.on false
def waits (md : Region.Mode) (ops : Array Oper) (b a : Nat) : Bool := (ops[b]?).any fun o => o.after.toList.any fun e => Region.binds md e && e.on == a
/-- Each of a path waits for the one ahead of it. -/
def pathB (md : Region.Mode) (ops : Array Oper) : List Nat → Bool
  | a :: b :: r => waits md ops b a && pathB md ops (b :: r)
  | _ => true
theorem closed_of {listed : Array Bool} (h : closedB md ops listed = true) : Closed md ops listed := fun k o ho hl e he hb => by
  have h1 := List.all_eq_true.1 h k (List.mem_range.2 (Array.getElem?_eq_some_iff.1 ho).1)
  rw [hl, ho] at h1
  have h2 : (o.after.toList.all fun e => !Region.binds md e || listed.getD e.on false) = true := by simpa using h1
  have h3 := List.all_eq_true.1 h2 e (Array.mem_toList_iff.2 he)
  rw [hb] at h3
  simpa using h3
theorem Closed.set {listed : Array Bool} (h : Closed md ops listed) {j : Nat} (hj : j ∈ Region.ready md ops listed) : Closed md ops (listed.setIfInBounds j true) := fun k o ho hl e he hb => by
  obtain ⟨_, oj, hoj, hall⟩ := mem_ready.1 hj
  by_cases hk : j = k
  · subst hk
    rw [hoj] at ho
    obtain rfl := Option.some.inj ho
    exact getD_set_true (hall e he hb)
  · rw [getD_set_ne false hk] at hl
    exact getD_set_true (h k o ho hl e he hb)
/-- Where the last of a path has come up, so has the first. -/
theorem path_listed {listed : Array Bool} (h : Closed md ops listed) : ∀ {p : List Nat} {i : Nat}, pathB md ops (i :: p) = true → (∀ last, (i :: p).getLast? = some last → listed.getD last false = true) → listed.getD i false = true
  | [], _, _, hl => hl _ rfl
  | b :: r, i, hp, hl => by
    simp only [pathB, Bool.and_eq_true] at hp
    have hb := path_listed h (p := r) (i := b) hp.2 (fun last e => hl last (by rw [List.getLast?_cons_cons]; exact e))
    cases ho : ops[b]? with
    | none => have := hp.1; rw [waits, ho] at this; simp at this
    | some o =>
      have h1 := hp.1
      rw [waits, ho] at h1
      simp only [Option.any_some, List.any_eq_true, Bool.and_eq_true, beq_iff_eq] at h1
      obtain ⟨e, he, hbd, rfl⟩ := h1
      exact h b o ho hb e (Array.mem_toList_iff.1 he) hbd

/-- What yields in every world of S, and what the last operation waits for, be it by others, may be taken first. -/
theorem wpAnyU_take {i : Nat} {oi : Oper} {v : Value} (hi : ops[i]? = some oi) (hs : Region.noSelect ops = true) (hQ : ∀ c a w, Q (.panic c) (a.put oi.dst v) w → Q (.panic c) a w)
    (hp : ∀ last ∈ lasts, ∃ p, pathB md ops (i :: p) = true ∧ p.getLast? = some last) :
    ∀ {fuel : Nat} {listed : Array Bool} {a : Act} {w : World}, closedB md ops listed = true → Region.free md ops listed i = true → (Region.ready md ops listed).contains i = true → YieldsIf P ops S oi v a → S w →
      wpAnyU P md ops Q S lasts fuel (listed.setIfInBounds i true) (a.put oi.dst v) w → wpAnyU P md ops Q S lasts (fuel + 1) listed a w := by
  have main : ∀ (fuel : Nat) (listed : Array Bool) (a : Act) (w : World), Closed md ops listed →
      (∀ j oj, ops[j]? = some oj → j ≠ i → listed.getD j true = false → (∀ e ∈ oj.after, Region.binds md e = true → e.on ≠ i) → oi.apart ops oj = true) →
      i ∈ Region.ready md ops listed → YieldsIf P ops S oi v a → S w → wpAnyU P md ops Q S lasts fuel (listed.setIfInBounds i true) (a.put oi.dst v) w → wpAnyU P md ops Q S lasts (fuel + 1) listed a w := by
    intro fuel
    induction fuel with
    | zero =>
      intro listed a w _ _ hr hy hS H
      refine ⟨fun h => absurd (h ▸ hr) (by simp), fun j hj => ?_⟩
      by_cases e : j = i
      · subst e
        exact hy.wpOp hi hS ⟨.inr hS, H⟩
      · exact absurd (H.1 ▸ ready_mono hj e) (by simp)
    | succ fuel ih =>
      intro listed a w hcl hfr hr hy hS H
      refine ⟨fun h => absurd (h ▸ hr) (by simp), fun j hj => ?_⟩
      by_cases e : j = i
      · subst e
        exact hy.wpOp hi hS ⟨.inr hS, H⟩
      · obtain ⟨hun, oj, hoj, hall⟩ := mem_ready.1 hj
        have hi0 := (mem_ready.1 hr).1
        have hnot : ∀ e ∈ oj.after, Region.binds md e = true → e.on ≠ i := fun x hx hb he => unlisted_of hi0 (he ▸ hall x hx hb)
        have hjl : j ∉ lasts := fun he => by
          obtain ⟨p, hp, hpl⟩ := hp j he
          have hc := hcl.set hj
          have h1 := path_listed hc hp (fun l hl => by
            have : l = j := by
              cases p with
              | nil => simp at hpl
              | cons b r => rw [List.getLast?_cons_cons, hpl] at hl; exact (Option.some.inj hl).symm
            subst this
            have hlt : l < listed.size := by
              rcases Nat.lt_or_ge l listed.size with h | h
              · exact h
              · simp [Array.getElem?_eq_none h] at hun
            simp [hlt])
          rw [getD_set_ne false e] at h1
          exact unlisted_of hi0 h1
        have step := wpOp_putIf hoj (hfr j oj hoj e hun hnot) (fun cs b => Region.noSelect_spec hs i oi cs b hi) (fun cs b => Region.noSelect_spec hs j oj cs b hoj) hQ hy (H.2 j (ready_mono hj e))
        refine wpOp_mono (fun a' w' g => ?_) step
        have hS' : S w' := g.2.1.resolve_left hjl
        refine ⟨.inr hS', ih _ a' w' (hcl.set hj) (fun k ok hk hki hkun hkno => ?_) (ready_mono hr (Ne.symm e)) g.1 hS' ?_⟩
        · by_cases hjk : j = k
          · subst hjk
            exact hfr j ok hk hki hun hkno
          · exact hfr k ok hk hki (by rwa [getD_set_ne true hjk] at hkun) hkno
        · rw [Array.setIfInBounds_comm _ _ e]
          exact g.2.2
  intro fuel listed a w hcl hf hr hy hS H
  exact main fuel listed a w (closed_of hcl) (Region.free_spec hi hf) (by simpa using hr) hy hS H

/-- Each of the last ones waits for i, by one of these paths. -/
def leadsB (md : Region.Mode) (ops : Array Oper) (lasts : List Nat) (i : Nat) (ps : List (List Nat)) : Bool := lasts.all fun l => ps.any fun p => pathB md ops (i :: p) && p.getLast? == some l
theorem leads_of {i : Nat} (ps : List (List Nat)) (h : leadsB md ops lasts i ps = true) : ∀ last ∈ lasts, ∃ p, pathB md ops (i :: p) = true ∧ p.getLast? = some last := fun l hl => by
  have h1 := List.all_eq_true.1 h l hl
  obtain ⟨p, _, hp⟩ := List.any_eq_true.1 h1
  rw [Bool.and_eq_true] at hp
  exact ⟨p, hp.1, by simpa using hp.2⟩

theorem wpAnyU_all {rs : List Nat} {fuel : Nat} {listed : Array Bool} {a : Act} {w : World} (hr : Region.ready md ops listed = rs) (hne : rs ≠ [])
    (h : ∀ j ∈ rs, wpOp P ops Q j (fun a' w' => (j ∈ lasts ∨ S w') ∧ wpAnyU P md ops Q S lasts fuel (listed.setIfInBounds j true) a' w') a w) : wpAnyU P md ops Q S lasts (fuel + 1) listed a w :=
  ⟨fun h0 => absurd (hr ▸ h0) hne, hr ▸ h⟩
theorem wpAnyU_done {listed : Array Bool} {a : Act} {w : World} (hr : Region.ready md ops listed = []) (h : Q .normal a w) : ∀ fuel, wpAnyU P md ops Q S lasts fuel listed a w
  | 0 => ⟨hr, h⟩
  | _ + 1 => ⟨fun _ => h, by rw [hr]; simp⟩
/-- The region's begin. -/
theorem wp_region_until (lasts : List Nat) {id : Nat} {a : Act} {w : World} (hm : P.follows .mixedOrders = true) (hS : S w.drew)
    (h : S w.drew → wpAnyU P .any ops Q S lasts ops.size (Array.replicate ops.size false) a w.drew) : (Code.region id ops true).wp P Q a w := wp_region_any hm (wpAnyU_any (h hS))
/-- An operation that comes up; its way on stays shut till it is done. -/
theorem wpOp_shut {i : Nat} {o : Oper} {K : Act → World → Prop} {a : Act} {w : World} (ho : ops[i]? = some o)
    (h : ∀ K' : Act → World → Prop, Box (∀ a w, K a w → K' a w) → if Region.wanted o (yielded ops a.tmps) = true then Oper.wp P o a w K' Q else K' (a.put o.dst undef) w) : wpOp P ops Q i K a w :=
  wpOp_step ho (fun K' hK => h K' ⟨hK⟩)
end
/-- A call of a Go function, as one step of a region that draws. -/
theorem step_call {P : Program} {ops : Array Oper} {o : Oper} {a : Act} {w : World} {K : Act → World → Prop} {Q : Exit → Act → World → Prop} {E : Prop} (hg : o.guard = none) {f : FuncId} {fn : Func} {xs : Array Operand} {ts : Array TypeId}
    (hop : o.op = .call { callee := .value (.func f), args := xs, argTypes := ts }) (hf : P.funcs[f]? = some fn) (hname : (fn.name == "runtime.NumGoroutine") = false) (hb : fn.body.isSome = true) (args : Array Value) (hargs : xs.map a.eval = args)
    (h : Calls P f args w fun e w' => ∃ v, e = .returned v ∧ K (a.put o.dst v) w') : if Region.wanted o (yielded ops a.tmps) = true then Oper.wp P o a w K Q else E := by
  have hw : Region.wanted o (yielded ops a.tmps) = true := by simp [Region.wanted, hg]
  rw [if_pos hw]
  have he : (callFunc f args).run P w = .ok (.enter f args) w := by
    have h1 : fn.name ≠ "runtime.NumGoroutine" := by simpa using hname
    obtain ⟨c, hc⟩ := Option.isSome_iff_exists.1 hb
    simp [callFunc, hf, h1, hc]
  have hrun : (execOp a.eval o).run P w = .ok (.enter f args) w := by
    unfold execOp
    simp [hop, resolve, Deferred.ofValue, invoke, Act.eval, hargs, he]
  unfold Oper.wp
  rw [hrun, Oper.upon_enter]
  refine h.mono fun e w'' hh => ?_
  obtain ⟨v, rfl, hk⟩ := hh
  exact hk
theorem step_call_want {P : Program} {ops : Array Oper} {o : Oper} {a : Act} {w : World} {K : Act → World → Prop} {Q : Exit → Act → World → Prop} {E : Prop} (hw : Region.wanted o (yielded ops a.tmps) = true) {f : FuncId} {fn : Func} {xs : Array Operand} {ts : Array TypeId}
    (hop : o.op = .call { callee := .value (.func f), args := xs, argTypes := ts }) (hf : P.funcs[f]? = some fn) (hname : (fn.name == "runtime.NumGoroutine") = false) (hb : fn.body.isSome = true) (args : Array Value) (hargs : xs.map a.eval = args)
    (h : Calls P f args w fun e w' => ∃ v, e = .returned v ∧ K (a.put o.dst v) w') : if Region.wanted o (yielded ops a.tmps) = true then Oper.wp P o a w K Q else E := by
  rw [if_pos hw]
  have he : (callFunc f args).run P w = .ok (.enter f args) w := by
    have h1 : fn.name ≠ "runtime.NumGoroutine" := by simpa using hname
    obtain ⟨c, hc⟩ := Option.isSome_iff_exists.1 hb
    simp [callFunc, hf, h1, hc]
  have hrun : (execOp a.eval o).run P w = .ok (.enter f args) w := by
    unfold execOp
    simp [hop, resolve, Deferred.ofValue, invoke, Act.eval, hargs, he]
  unfold Oper.wp
  rw [hrun, Oper.upon_enter]
  refine h.mono fun e w'' hh => ?_
  obtain ⟨v, rfl, hk⟩ := hh
  exact hk

/-- A world that comes of w, of whose blocks none has turned. -/
def Over (w : World) : Type := { w' : World // Below w.heap.size w w' }
instance (w : World) : Nonempty (Over w) := ⟨⟨w, Below.refl _ _⟩⟩
def ov (w : World) (x : Over w) : World := x.val
theorem ov_below {w : World} (x : Over w) : Below w.heap.size w (ov w x) := x.property
theorem ov_size {w : World} (x : Over w) : w.heap.size ≤ (ov w x).heap.size := (ov_below x).size
theorem ov_cell {w : World} {b o : Nat} {v : Value} (hb : b < w.heap.size) (h : w.cell? ⟨b, o, none⟩ = some v) : ∀ x : Over w, (ov w x).cell? ⟨b, o, none⟩ = some v :=
  fun x => by rw [(ov_below x).cell (p := ⟨b, o, none⟩) hb, h]

theorem ov_row {w : World} {b : Nat} {cs : Array Value} {T : TypeId} {fr : Nat × Nat} (h : w.heap[b]? = some (.cells cs T fr)) (i : Nat) {v : Value} (hv : cs[i]? = some v) :
    ∀ x : Over w, (ov w x).cell? ⟨b, i, none⟩ = some v :=
  ov_cell (Array.getElem?_eq_some_iff.1 h).1 ((cell_of_row w b i cs T fr h).trans hv)
theorem below_row {B : Nat} {w w' : World} {b : Nat} {o : Obj} (hb : Below B w w') (h : w.heap[b]? = some o) (hlt : b < B) : w'.heap[b]? = some o := (hb.block b hlt).trans h
theorem new_row (w : World) (o : Obj) : (w.alloc o).heap[w.heap.size]? = some o := heap_alloc_new w o
theorem old_row {w : World} {b : Nat} {o o' : Obj} (h : w.heap[b]? = some o') : (w.alloc o).heap[b]? = some o' := by
  rw [heap_alloc_old w o (Array.getElem?_eq_some_iff.1 h).1]; exact h
theorem calls_over {P : Program} {f : FuncId} {args : Array Value} {w : World} {x : Over w} {v : Value}
    (h : Calls P f args (ov w x) fun e w' => e = .returned v ∧ Below (ov w x).heap.size (ov w x) w') : Calls P f args (ov w x) fun e w'' => e = .returned v ∧ ∃ y : Over w, w'' = ov w y :=
  h.mono fun _ w' ⟨he, hb⟩ => ⟨he, ⟨w', (ov_below x).trans (hb.mono (ov_size x))⟩, rfl⟩
theorem calls_over_same {P : Program} {f : FuncId} {args : Array Value} {w : World} {x : Over w} {v : Value}
    (h : Calls P f args (ov w x) fun e w' => e = .returned v ∧ w' = ov w x) : Calls P f args (ov w x) fun e w'' => e = .returned v ∧ ∃ y : Over w, w'' = ov w y :=
  h.mono fun _ _ ⟨he, hb⟩ => ⟨he, x, hb⟩

theorem wp_region_over_lit {P : Program} {id : Nat} {Q : Exit → Act → World → Prop} {a : Act} {w : World} {l : List Oper} (hm : P.follows .mixedOrders = true) (hB : Region.lexB .any l.toArray = true)
    (h : wpQuiet P l.toArray (fun w' => ∃ x : Over w, w' = ov w x) (fun a' => ∀ w', (∃ x : Over w, w' = ov w x) → Q .normal a' w') l a) : (Code.region id l.toArray true).wp P Q a w :=
  wp_region_quiet (C := fun w' => ∃ x : Over w, w' = ov w x) hm hB ⟨⟨_, (Below.refl _ _).drew⟩, rfl⟩ (by simpa using h)
end Go.Proofs.Yticbjhicjegfoaa.Q
