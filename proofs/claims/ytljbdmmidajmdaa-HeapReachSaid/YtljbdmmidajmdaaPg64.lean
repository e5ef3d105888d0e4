/- The document's Reach: where a cell leads; what is reached. -/
import Derived.Test.YtljbdmmidajmdaaPg60
namespace Go.Proofs.Ytljbdmmidajmdaa.Pg
open Go.RowKit Go.Maps
attribute [local go_sem ↓] Go.wp_at_zero Go.wp_at_succ

section
variable {P : Program} (w : World)
/-- append of a whole row, be it empty, to an empty row of one's own, at a step of a region that draws its order. -/
theorem step_copy2 {ops : Array Oper} {o : Oper} {a : Act} {K : Act → World → Prop} {Q : Exit → Act → World → Prop} {E : Prop} (hgd : o.guard = none) (s x : Operand) (t : TypeId)
    (ho : o.op = .call { callee := .builtin .append, args := #[s, x], argTypes := #[t, t] })
    (base : Nat) (e : TypeId) (i : TypeInfo) (z : Value) (size bytes : Nat) (ht : P.underlying t = some (.slice e)) (hi : P.info? e = some i) (hz : i.zero = some z)
    (hsize : i.size = size) (hby : i.bytes = bytes) (hzs : z.cells.size = size) (hsz : 0 < size)
    (k : Nat) (hs : a.eval s = .slice (some ⟨k, 0, none⟩) 0 0) (hown : w.ownsRow base e size (.slice (some ⟨k, 0, none⟩) 0 0) 0 [])
    (A : Option Addr) (m c : Nat) (news : List Value) (hx : a.eval x = .slice A m c) (hl : news.length = m * size) (hnews : ∀ ad, A = some ad → ∀ j u, news[j]? = some u → w.cell? (ad.add j) = some u) (hA : A = none → m = 0) (h1 : ∀ u ∈ news, u.oneCell' = true)
    (h63 : m ≤ maxLen) (hbytes : m * bytes ≤ 140737488355328) (hbase : base ≤ w.heap.size)
    (h : ∀ g cap w', w'.ownsRow base e size (.slice (some ⟨g, 0, none⟩) m cap) m news → w.grownBy w' (some k) → (k = g ∨ g = w.heap.size) → g < w'.heap.size → K (a.put o.dst (.slice (some ⟨g, 0, none⟩) m cap)) w') :
    if Region.wanted o (yielded ops a.tmps) = true then Oper.wp P o a w K Q else E := by
  rcases Nat.eq_zero_or_pos m with rfl | hm
  · have hw : Region.wanted o (yielded ops a.tmps) = true := by simp [Region.wanted, hgd]
    rw [if_pos hw]
    obtain rfl : news = [] := by
      rw [Nat.zero_mul] at hl
      exact List.length_eq_zero_iff.1 hl
    have hr : (Builtin.append_ #[t, t] o.type #[.slice (some ⟨k, 0, none⟩) 0 0, .slice A 0 c]).run P w = .ok (.slice (some ⟨k, 0, none⟩) 0 0) w := by
      cases A <;> simp [Builtin.append_, run_underlying ht, sizeOf, typeInfo, hi, Builtin.lenOf, Builtin.firstCells, storeCells, loadCells, loadCellsFrom]
    unfold Oper.wp execOp
    simp only [ho, resolve, invoke, builtin, Sem.run_bind, Sem.run_pure, Result.andThen_ok, List.map_toArray, List.map_cons, List.map_nil, hs, hx, hr]
    exact h k 0 w hown ⟨rfl, rfl, rfl, Nat.le_refl _, fun _ _ _ => rfl⟩ (.inl rfl) (hown.lt k rfl).2
  · cases A with
    | none => exact absurd (hA rfl) (by omega)
    | some ad =>
      refine step_append_lies w hgd s x t ho base e i z size bytes ht hi hz hsize hby hzs hsz (.slice (some ⟨k, 0, none⟩) 0 0) 0 [] hs hown ad m c news hx hl (hnews ad rfl) h1 hm (by omega) (by rwa [Nat.zero_add]) hbase w.heap.size rfl ?_
      intro g cap w' h2 h3 h4 h5
      rw [Nat.zero_add, List.nil_append] at h2
      rw [Nat.zero_add]
      exact h g cap w' h2 h3 (h4.imp (fun q => by simpa [Value.ownBlock] using q) id) h5
end

/-- append of a whole row, be it empty, to an empty row of one's own. -/
theorem wpList_copy {P : Program} (w : World) {ops : Array Oper} {rest : List Oper} {o : Oper} {a : Act} {Q : Exit → Act → World → Prop} (hgd : o.guard = none) (s x : Operand) (t : TypeId)
    (ho : o.op = .call { callee := .builtin .append, args := #[s, x], argTypes := #[t, t] })
    (base : Nat) (e : TypeId) (i : TypeInfo) (z : Value) (size bytes : Nat) (ht : P.underlying t = some (.slice e)) (hi : P.info? e = some i) (hz : i.zero = some z)
    (hsize : i.size = size) (hby : i.bytes = bytes) (hzs : z.cells.size = size) (hsz : 0 < size)
    (k : Nat) (hs : a.eval s = .slice (some ⟨k, 0, none⟩) 0 0) (hown : w.ownsRow base e size (.slice (some ⟨k, 0, none⟩) 0 0) 0 [])
    (A : Option Addr) (m c : Nat) (news : List Value) (hx : a.eval x = .slice A m c) (hl : news.length = m * size) (hnews : ∀ ad, A = some ad → ∀ j u, news[j]? = some u → w.cell? (ad.add j) = some u) (hA : A = none → m = 0) (h1 : ∀ u ∈ news, u.oneCell' = true)
    (h63 : m ≤ maxLen) (hbytes : m * bytes ≤ 140737488355328) (hbase : base ≤ w.heap.size)
    (h : ∀ g cap w', w'.ownsRow base e size (.slice (some ⟨g, 0, none⟩) m cap) m news → w.grownBy w' (some k) → (k = g ∨ g = w.heap.size) → g < w'.heap.size → wpList P ops Q rest (a.put o.dst (.slice (some ⟨g, 0, none⟩) m cap)) w') : wpList P ops Q (o :: rest) a w :=
  wpList_step fun _ hK => step_copy2 w hgd s x t ho base e i z size bytes ht hi hz hsize hby hzs hsz k hs hown A m c news hx hl hnews hA h1 h63 hbytes hbase fun g cap w' h2 h3 h4 h5 => hK _ _ (h g cap w' h2 h3 h4 h5)

theorem infoVals : (Try.prog.info? 60).map (fun i => (i.zero, i.size, i.bytes)) = some (some (.agg #[.int .i64 0, .int .i64 0, .string ByteArray.empty]), 3, 32) := by kernel_rfl
/-- Where a cell leads, as values. -/
def leadVs (c : CD) : List VD := c.vals ++ ((if c.kind = 1 ∨ c.kind = 4 then [⟨5, c.a, ByteArray.empty⟩] else []) ++ (if c.kind = 3 then [⟨5, c.b, ByteArray.empty⟩] else []))
/-- The values' cells. -/
def flatV (vs : List VD) : List Value := (vs.map VD.row).flatten
theorem flatV_append (a b : List VD) : flatV (a ++ b) = flatV a ++ flatV b := by simp [flatV]
theorem flatV_length : ∀ vs : List VD, (flatV vs).length = vs.length * 3
  | [] => rfl
  | v :: vs => by
    have := flatV_length vs
    unfold flatV at this ⊢
    simp only [List.map_cons, List.flatten_cons, List.length_append, this, List.length_cons]
    simp [VD.row]; omega
theorem flatV_one {vs : List VD} : ∀ u ∈ flatV vs, u.oneCell' = true := fun u hu => by
  obtain ⟨r, hr, hu⟩ := List.mem_flatten.1 hu
  obtain ⟨v, _, rfl⟩ := List.mem_map.1 hr
  simp only [VD.row, List.mem_cons, List.not_mem_nil, or_false] at hu
  rcases hu with rfl | rfl | rfl <;> rfl
theorem flatV_get {vs : List VD} {j : Nat} {u : Value} (h : (flatV vs)[j]? = some u) : ∃ v, vs[j / 3]? = some v ∧ v.row[j % 3]? = some u := by
  induction vs generalizing j with
  | nil => simp [flatV] at h
  | cons v vs ih =>
    have e : flatV (v :: vs) = v.row ++ flatV vs := by simp [flatV]
    rw [e] at h
    have hl : v.row.length = 3 := rfl
    rcases Nat.lt_or_ge j 3 with hj | hj
    · rw [List.getElem?_append_left (by omega)] at h
      exact ⟨v, by rw [show j / 3 = 0 by omega]; rfl, by rw [show j % 3 = j by omega]; exact h⟩
    · rw [List.getElem?_append_right (by omega), hl] at h
      obtain ⟨u', h1, h2⟩ := ih h
      refine ⟨u', ?_, by rw [show j % 3 = (j - 3) % 3 by omega]; exact h2⟩
      rw [show j / 3 = (j - 3) / 3 + 1 by omega, List.getElem?_cons_succ]
      exact h1
/-- A row of values as a source. -/
theorem RowR.news {B : Nat} {w : World} {A : Option Addr} {n cap : Nat} {vs : List VD} (h : RowR B w 3 (.slice A n cap) (vs.map VD.row)) : vs.length = n ∧ n ≤ maxLen ∧ (A = none → n = 0) ∧ ∀ ad, A = some ad → ∀ j u, (flatV vs)[j]? = some u → w.cell? (ad.add j) = some u := by
  obtain ⟨A', n', c', e, h2, h3, h4, h5, h6⟩ := h
  injection e with e1 e2 e3
  subst e1 e2 e3
  rw [List.length_map] at h2
  refine ⟨h2, by omega, fun e => by have := h5 e; omega, fun ad hA j u hj => ?_⟩
  obtain ⟨v, hv, hu⟩ := flatV_get hj
  have hlt := (List.getElem?_eq_some_iff.1 hv).1
  obtain ⟨b, o, e, _, hc⟩ := h6 (by omega)
  obtain rfl := Option.some.inj (hA.symm.trans e)
  have := (hc (j / 3) v.row (by rw [List.getElem?_map, hv]; rfl)).2 (j % 3) u hu
  rw [show j / 3 * 3 + j % 3 = j by omega] at this
  rwa [show (⟨b, o, none⟩ : Addr).add j = ⟨b, o + j, none⟩ by unfold Addr.add; split <;> simp_all]
/-- A row of values of one's own. -/
def OutV (w : World) (base : Nat) (v : Value) (vs : List VD) : Prop := w.ownsRow base 60 3 v vs.length (flatV vs)
theorem OutV.row {w : World} {base : Nat} {v : Value} {vs : List VD} {B : Nat} (h : OutV w base v vs) : RowR B w 3 v (vs.map VD.row) :=
  RowR.of_own h (.inr rfl) (fun c hc => by obtain ⟨v, _, rfl⟩ := List.mem_map.1 hc; rfl) (by simp)
theorem OutV.below {w w' : World} {base : Nat} {v : Value} {vs : List VD} (h : OutV w base v vs) (hb : Below w.heap.size w w') : OutV w' base v vs := own_move h (fun k hk => hb.block k (h.lt k hk).2)
theorem OutV.slice {w : World} {base : Nat} {v : Value} {vs : List VD} (h : OutV w base v vs) : ∃ A cap, v = .slice A vs.length cap := by
  rcases h.2 with ⟨e, e2⟩ | ⟨g, cap, cur, e, _⟩
  · have h1 := h.1
    rw [e2] at h1
    have : vs.length = 0 := by simp at h1; omega
    exact ⟨none, 0, by rw [e, this]⟩
  · exact ⟨_, _, e⟩
end Go.Proofs.Ytljbdmmidajmdaa.Pg
