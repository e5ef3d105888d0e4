/- append to a row of one's own: what the old row held is there still. -/
import Derived.Test.YtljbdmmidajmdaaPg46
namespace Go.Proofs.Ytljbdmmidajmdaa.Pg
open Go.RowKit

section
variable {P : Program} (w : World)
theorem run_append_old (t ty : TypeId) (base : Nat) (e : TypeId) (i : TypeInfo) (z : Value) (size bytes : Nat) (ht : P.underlying t = some (.slice e)) (hi : P.info? e = some i) (hz : i.zero = some z)
    (hsize : i.size = size) (hby : i.bytes = bytes) (hzs : z.cells.size = size) (hsz : 0 < size)
    (g n cap : Nat) (xs : List Value) (hown : w.ownsRow base e size (.slice (some ⟨g, 0, none⟩) n cap) n xs)
    (ad : Addr) (m c : Nat) (news : List Value) (hl : news.length = m * size) (hnews : ∀ j u, news[j]? = some u → w.cell? (ad.add j) = some u) (h1 : ∀ u ∈ news, u.oneCell' = true)
    (hm : 0 < m) (h63 : n + m ≤ maxLen) (hbytes : (n + m) * bytes ≤ 140737488355328) (hbase : base ≤ w.heap.size) :
    ∃ g1 cap1 w1, (Builtin.append_ #[t, t] ty #[.slice (some ⟨g, 0, none⟩) n cap, .slice (some ad) m c]).run P w = .ok (.slice (some ⟨g1, 0, none⟩) (n + m) cap1) w1 ∧
      w1.ownsRow base e size (.slice (some ⟨g1, 0, none⟩) (n + m) cap1) (n + m) (xs ++ news) ∧ w.grownBy w1 (some g) ∧ (g = g1 ∨ g1 = w.heap.size) ∧ g1 < w1.heap.size ∧ ∀ j u, xs[j]? = some u → w1.cell? ⟨g, j, none⟩ = some u := by
  have hadd : ∀ (k j : Nat), (⟨k, 0, none⟩ : Addr).add j = ⟨k, j, none⟩ := fun k j => by unfold Addr.add; split <;> simp_all
  obtain ⟨g1, cap1, w1, hr, h2, h3, h4, h5⟩ := run_append_lies (P := P) w t ty base e i z size bytes ht hi hz hsize hby hzs hsz _ n xs hown ad m c news hl hnews h1 hm h63 hbytes hbase w.heap.size rfl
  refine ⟨g1, cap1, w1, hr, h2, h3, h4.imp (fun q => by simpa [Value.ownBlock] using q) id, h5, fun j u hj => ?_⟩
  have hold : ∀ j u, xs[j]? = some u → w.cell? ((⟨g, 0, none⟩ : Addr).add j) = some u := hown.cells (g := g) rfl
  subst hsize
  subst hby
  have hsmall : n + m ≤ 9223372036854775807 := by simp only [maxLen] at h63; omega
  rcases hown.2 with ⟨hv, _⟩ | ⟨g0, cap0, cur, hv, hbg, hg, hnc, hcm, hcs, htake⟩
  · cases hv
  · injection hv with e1 _ e3
    injection e1 with e1
    injection e1 with e1
    subst e1 e3
    by_cases hroom : n + m ≤ cap
    · have hfit : n * i.size + news.length ≤ cur.size := by rw [hl, hcs, ← Nat.add_mul]; exact Nat.mul_le_mul_right _ hroom
      have hr2 := run_append_room (P := P) w t ty e i ht hi g n cap cur hg ad m c news hl hnews h1 hroom hfit
      rw [hr] at hr2
      injection hr2 with q1 q2
      injection q1 with q1
      injection q1 with q1
      injection q1 with q1
      subst q1
      have := h2.cells (g := g1) rfl j u (by rw [List.getElem?_append_left (List.getElem?_eq_some_iff.1 hj).1]; exact hj)
      rwa [hadd] at this
    · have hr2 := run_append_grow (P := P) w t ty e i z ht hi hz ⟨g, 0, none⟩ n cap xs hown.1 hold ad m c news hl hnews (by omega) (by omega) (growslice_fits (by omega) hbytes)
      rw [hr] at hr2
      injection hr2 with _ q2
      subst q2
      have hc := hold j u hj
      rw [hadd] at hc
      have hlt := block_lt_of_cell hc
      exact (World.cell?_of_block (w := w) (a := ⟨g, j, none⟩) (heap_alloc_old w.drew _ hlt)).trans hc

/-- At a step of a region that draws its order. -/
theorem step_append_old {ops : Array Oper} {o : Oper} {a : Act} {K : Act → World → Prop} {Q : Exit → Act → World → Prop} {E : Prop} (hgd : o.guard = none) (s x : Operand) (t : TypeId)
    (ho : o.op = .call { callee := .builtin .append, args := #[s, x], argTypes := #[t, t] })
    (base : Nat) (e : TypeId) (i : TypeInfo) (z : Value) (size bytes : Nat) (ht : P.underlying t = some (.slice e)) (hi : P.info? e = some i) (hz : i.zero = some z)
    (hsize : i.size = size) (hby : i.bytes = bytes) (hzs : z.cells.size = size) (hsz : 0 < size)
    (g n cap : Nat) (xs : List Value) (hs : a.eval s = .slice (some ⟨g, 0, none⟩) n cap) (hown : w.ownsRow base e size (.slice (some ⟨g, 0, none⟩) n cap) n xs)
    (ad : Addr) (m c : Nat) (news : List Value) (hx : a.eval x = .slice (some ad) m c) (hl : news.length = m * size) (hnews : ∀ j u, news[j]? = some u → w.cell? (ad.add j) = some u) (h1 : ∀ u ∈ news, u.oneCell' = true)
    (hm : 0 < m) (h63 : n + m ≤ maxLen) (hbytes : (n + m) * bytes ≤ 140737488355328) (hbase : base ≤ w.heap.size)
    (h : ∀ g1 cap1 w1, w1.ownsRow base e size (.slice (some ⟨g1, 0, none⟩) (n + m) cap1) (n + m) (xs ++ news) → w.grownBy w1 (some g) → (g = g1 ∨ g1 = w.heap.size) → g1 < w1.heap.size → (∀ j u, xs[j]? = some u → w1.cell? ⟨g, j, none⟩ = some u) → K (a.put o.dst (.slice (some ⟨g1, 0, none⟩) (n + m) cap1)) w1) :
    if Region.wanted o (yielded ops a.tmps) = true then Oper.wp P o a w K Q else E := by
  have hw : Region.wanted o (yielded ops a.tmps) = true := by simp [Region.wanted, hgd]
  rw [if_pos hw]
  obtain ⟨g1, cap1, w1, hr, h2, h3, h4, h5, h6⟩ := run_append_old (P := P) w t o.type base e i z size bytes ht hi hz hsize hby hzs hsz g n cap xs hown ad m c news hl hnews h1 hm h63 hbytes hbase
  unfold Oper.wp execOp
  simp only [ho, resolve, invoke, builtin, Sem.run_bind, Sem.run_pure, Result.andThen_ok, List.map_toArray, List.map_cons, List.map_nil, hs, hx, hr]
  exact h g1 cap1 w1 h2 h3 h4 h5 h6
end
end Go.Proofs.Ytljbdmmidajmdaa.Pg
