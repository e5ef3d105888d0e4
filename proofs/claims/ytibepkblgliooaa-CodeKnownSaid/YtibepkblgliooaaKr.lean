/- What a proof further on needs (part r). -/
import Derived.Test.YtibepkblgliooaaKq
set_option linter.unusedVariables false
namespace Go.Proofs.Ytibepkblgliooaa.Q
open Go.RowKit
open Go.Proofs.YtibepkblgliooaaW.PrintWords
theorem lvRow_cons (x : Lv) (L : List Lv) (p : Option Nat) (ids : List (Option Nat)) : lvRow (x :: L) (p :: ids) = lvRow L ids ++ [lvE x p] := by simp [lvRow]
section
variable {w w' : World} {L : List Lv} {ids : List (Option Nat)} {f E : Nat → Prop} {x : Lv} {pid : Option Nat}
theorem LvM.cons (h : LvM w [x] [pid] E) (g : LvM w L ids f) (hd : ∀ k, f k → ¬ E k) : LvM w (x :: L) (pid :: ids) (fun k => E k ∨ f k) := by
  cases h with
  | lv h =>
    cases h
    have e : (fun k => False ∨ f k) = f := by funext k; simp
    rw [e]
    exact .lv g
  | lp hc ho hp hl hf h =>
    cases h
    rename_i p top outs vo ok
    have e : (fun k => (k = p ∨ ok k ∨ False) ∨ f k) = fun k => k = p ∨ ok k ∨ f k := by funext k; simp [or_assoc]
    rw [e]
    exact .lp hc ho hp hl (fun k q => ⟨fun e => hd k q (.inl e), fun e => hd k q (.inr (.inl e))⟩) g
theorem LvM.uncons (h : LvM w (x :: L) (pid :: ids) f) : ∃ E f1, LvM w [x] [pid] E ∧ LvM w L ids f1 ∧ (∀ k, f1 k → ¬ E k) ∧ (∀ k, E k → f k) ∧ ∀ k, f1 k → f k := by
  cases h with
  | lv h => exact ⟨fun _ => False, f, .lv .nil, h, fun _ _ => id, fun _ h => h.elim, fun _ h => h⟩
  | lp hc ho hp hl hf h =>
    rename_i p top outs vo ok f1
    exact ⟨fun k => k = p ∨ ok k ∨ False, f1, .lp hc ho hp hl (fun _ q => q.elim) .nil, h, fun k q e => e.elim (hf k q).1 (fun e => e.elim (hf k q).2 id), fun k e => e.elim .inl (fun e => e.elim (fun e => .inr (.inl e)) (fun e => e.elim)), fun k q => .inr (.inr q)⟩
end
section
variable {G : MG} {w w1 W : World} {F okc oko f E ok2 : Nat → Prop} {ids : List (Option Nat)} {S : Mk} {cv ov v1 : Value} {x : Lv} {pid : Option Nat}
/-- One more lies open. -/
theorem MSi.pushed (h : MSi G w F ids S okc cv oko ov f) (hb : Below w.heap.size w W) (hg : W.grownBy w1 ov.ownBlock) (hok : ok2 = fun k => oko k ∨ w.heap.size ≤ k) (hR : kLv.R 130 w1 0 ok2 v1 (lvRow S.opn ids ++ [lvE x pid])) (hx : LvM w [x] [pid] E)
    (hE : ∀ k, E k → ¬ F k ∧ k ≠ G.a ∧ k ≠ G.b1 ∧ k ≠ G.b2 ∧ k ≠ G.mb ∧ ¬ G.okl k) (hc : w1.heap[G.a]? = some (.cells (mkRow G cv ov) 73 (0, 0))) :
    MSi G (w1.setCell ⟨G.a, 5, none⟩ v1) (fun k => (F k ∨ E k ∨ w.heap.size ≤ k) ∧ k < w1.heap.size) (pid :: ids) { S with opn := x :: S.opn } okc cv (fun k => ok2 k ∧ k < w1.heap.size) v1 (fun k => E k ∨ f k) := by
  have hlts := h.lt
  have hmb := h.ne.2.2.2
  have hF : ∀ k, F k → k < w.heap.size := fun k q => (h.off k q).2.2.2.2.2
  have hEl := hx.lt
  have hw1 : w.heap.size ≤ w1.heap.size := Nat.le_trans hb.size hg.size
  have ooF : ∀ k, oko k → F k := fun k q => (h.fo k q).1
  have keep : ∀ k, k < w.heap.size → k ≠ G.a → ¬ oko k → (w1.setCell ⟨G.a, 5, none⟩ v1).heap[k]? = w.heap[k]? := fun k q1 q2 q3 => (Below.heap_setCell _ _ _ _ (fun e => q2 e)).trans ((hg.block k (Nat.lt_of_lt_of_le q1 hb.size) (fun e => q3 (h.opn.1 k e.symm))).trans (hb.block k q1))
  have nc : ∀ k, oko k → k ≠ G.a ∧ k ≠ G.b1 ∧ k ≠ G.b2 ∧ k ≠ G.mb ∧ ¬ G.okl k ∧ k < w.heap.size := fun k q => h.off k (ooF k q)
  have hs : (w1.setCell ⟨G.a, 5, none⟩ v1).heap.size = w1.heap.size := by simp
  subst hok
  refine ⟨blk_put hc 5 _ rfl, Kd.N_step h.nodes (fun k q q2 => keep k q2 (h.offl k q).1 (fun e => (nc k e).2.2.2.2.1 q)), (keep _ hlts.2.1 h.ne.1.symm (fun e => (nc _ e).2.1 rfl)).trans h.sp, (keep _ hlts.2.2 h.ne.2.1.symm (fun e => (nc _ e).2.2.1 rfl)).trans h.sl, h.mp.block (keep _ hmb h.ne.2.2.1.symm (fun e => (nc _ e).2.2.2.1 rfl)), ?_, ?_, ?_, h.lens, ?_, ?_, ?_, ?_, ?_, ?_⟩
  · exact Kd.R_step h.code (fun k q q2 => keep k q2 (h.off k (h.fc k q).1).1 (h.fc k q).2.1)
  · rw [lvRow_cons]
    refine Kd.R_mono (Kd.R_step (Kd.R_bound hR) (fun k hk _ => Below.heap_setCell _ _ _ _ (fun e => ?_))) (fun k hk => ⟨hk.1, hk.2.2.1⟩)
    have e2 : k = G.a := e
    exact hk.1.elim (fun q => (nc k q).1 e2) (fun q => by omega)
  · refine LvM.cons (hx.step (by omega) (fun k q => ?_)) (h.lps.step (by omega) (fun k q => keep k (hF k (h.ff k q)) (h.off k (h.ff k q)).1 (fun e => (h.fo k e).2 q))) (fun k q e => (hE k e).1 (h.ff k q))
    exact keep k (hEl k q) (hE k q).2.1 (fun e => (hE k q).1 (ooF k e))
  · exact fun k q => ⟨⟨.inl (h.fc k q).1, by have := hF k (h.fc k q).1; omega⟩, fun e => e.1.elim (h.fc k q).2.1 (fun e => by have := hF k (h.fc k q).1; omega), fun e => e.elim (fun e => (hE k e).1 (h.fc k q).1) (h.fc k q).2.2⟩
  · rintro k ⟨q, q2⟩
    exact ⟨⟨q.elim (fun q => .inl (ooF k q)) (fun q => .inr (.inr q)), q2⟩, fun e => q.elim (fun q => e.elim (fun e => (hE k e).1 (ooF k q)) (h.fo k q).2) (fun q => e.elim (fun e => by have := hEl k e; omega) (fun e => by have := hF k (h.ff k e); omega))⟩
  · exact fun k q => q.elim (fun q => ⟨.inr (.inl q), by have := hEl k q; omega⟩) (fun q => ⟨.inl (h.ff k q), by have := hF k (h.ff k q); omega⟩)
  · rintro k ⟨q, q2⟩
    rw [hs]
    rcases q with q | q | q
    · obtain ⟨a1, a2, a3, a4, a5, _⟩ := h.off k q
      exact ⟨a1, a2, a3, a4, a5, q2⟩
    · obtain ⟨_, a1, a2, a3, a4, a5⟩ := hE k q
      exact ⟨a1, a2, a3, a4, a5, q2⟩
    · exact ⟨by omega, by omega, by omega, by omega, fun e => by have := (h.offl k e).2; omega, q2⟩
  · exact fun k q => ⟨(h.offl k q).1, by have := (h.offl k q).2; omega⟩
  · exact ⟨h.ne.1, h.ne.2.1, h.ne.2.2.1, by omega⟩
/-- The last that lies open is struck. -/
theorem MSi.popped {A : Option Addr} {n c : Nat} {r : List Lv} {code : List Ins} (h : MSi G w F (pid :: ids) ⟨code, x :: r⟩ okc cv oko (.slice A (n + 1) c) f) (hn : n = (lvRow r ids).length) (hw : Below w.heap.size w W) :
    ∃ E f1, LvM (W.setCell ⟨G.a, 5, none⟩ (.slice A n c)) [x] [pid] E ∧ (∀ k, E k → F k) ∧ MSi G (W.setCell ⟨G.a, 5, none⟩ (.slice A n c)) (fun k => F k ∧ ¬ E k) ids ⟨code, r⟩ okc cv oko (.slice A n c) f1 := by
  have h := h.kp (K := fun _ => False) (Kp.of_below hw) ⟨id, id, id, id⟩ (fun _ _ => id) (fun _ _ => id)
  obtain ⟨E, f1, hx, hl, hd, hE, hf⟩ := h.lps.uncons
  have keep : ∀ k, k ≠ G.a → (W.setCell ⟨G.a, 5, none⟩ (.slice A n c)).heap[k]? = W.heap[k]? := fun k q => Below.heap_setCell _ _ _ _ (fun e => q e)
  have hs : (W.setCell ⟨G.a, 5, none⟩ (.slice A n c)).heap.size = W.heap.size := by simp
  have nF : ∀ k, F k → k ≠ G.a := fun k q => (h.off k q).1
  refine ⟨E, f1, hx.step (by omega) (fun k q => keep k (nF k (h.ff k (hE k q)))), fun k q => h.ff k (hE k q), ⟨blk_put h.cell 5 _ rfl, Kd.N_step h.nodes (fun k q _ => keep k (h.offl k q).1), (keep _ h.ne.1.symm).trans h.sp, (keep _ h.ne.2.1.symm).trans h.sl, h.mp.block (keep _ h.ne.2.2.1.symm), Kd.R_step h.code (fun k q _ => keep k (nF k (h.fc k q).1)), ?_, hl.step (by omega) (fun k q => keep k (nF k (h.ff k (hf k q)))), h.lens, fun k q => ⟨⟨(h.fc k q).1, fun e => (h.fc k q).2.2 (hE k e)⟩, (h.fc k q).2.1, fun e => (h.fc k q).2.2 (hf k e)⟩, fun k q => ⟨⟨(h.fo k q).1, fun e => (h.fo k q).2 (hE k e)⟩, fun e => (h.fo k q).2 (hf k e)⟩, fun k q => ⟨h.ff k (hf k q), hd k q⟩, fun k q => by rw [hs]; exact h.off k q.1, fun k q => by rw [hs]; exact h.offl k q, by rw [hs]; exact h.ne⟩⟩
  have hR := h.opn
  rw [lvRow_cons] at hR
  have hT := Kd.R_take (m := n) hR (by rw [hn]; simp)
  rw [show (lvRow r ids ++ [lvE x pid]).take n = lvRow r ids by rw [hn, List.take_left]] at hT
  exact Kd.R_step hT (fun k q _ => keep k (nF k (h.fo k q).1))
end
end Go.Proofs.Ytibepkblgliooaa.Q
namespace Go.Proofs.Ytibepkblgliooaa.Q
open Go.RowKit
open Go.Proofs.YtibepkblgliooaaW.PrintWords
theorem pushF_some {S S' : Mk} {x : Lv} (h : pushF x S = some S') : S.opn.length < 1048576 ∧ S' = { S with opn := x :: S.opn } := by
  unfold pushF at h
  split at h
  · rename_i h1
    exact ⟨h1, (Option.some.inj h).symm⟩
  · cases h
theorem popF_some {S S' : Mk} (h : popF S = some S') : ∃ y, S.opn = y :: S'.opn ∧ S'.code = S.code := by
  unfold popF at h
  split at h
  · rename_i y r hr
    obtain rfl := Option.some.inj h
    exact ⟨y, hr, rfl⟩
  · cases h
theorem cells2 (w : World) (x0 x1 : Value) (T : TypeId) : (w.alloc (.cells #[x0, x1] T)).cell? ⟨w.heap.size, 0, none⟩ = some x0 ∧ (w.alloc (.cells #[x0, x1] T)).cell? ⟨w.heap.size, 1, none⟩ = some x1 := by
  have h := heap_alloc_new w (.cells #[x0, x1] T)
  exact ⟨(cell_of_row _ _ 0 _ _ _ h).trans rfl, (cell_of_row _ _ 1 _ _ _ h).trans rfl⟩
/-- What within leaves: what was open is struck, and lies as E' tells. -/
def WN (G : MG) (w : World) (F E : Nat → Prop) (ids : List (Option Nat)) (pid : Option Nat) (w' : World) (S2 S3 : Mk) : Prop :=
  ∃ y F' E', S2.opn = y :: S3.opn ∧ LvM w' [y] [pid] E' ∧ MS G w' F' ids S3 ∧ (∀ k, F' k → ¬ E' k) ∧ Kp (fun k => k = G.a ∨ F k ∨ E k) w w' ∧ (∀ k, F' k ∨ E' k → F k ∨ E k ∨ w.heap.size ≤ k) ∧ ∀ k, E' k → k ≠ G.a ∧ k ≠ G.b1 ∧ k ≠ G.b2 ∧ k ≠ G.mb ∧ ¬ G.okl k ∧ k < w'.heap.size
section
variable {G : MG} {w w' : World} {F E : Nat → Prop} {ids : List (Option Nat)} {S S1 S2 S3 : Mk} {x : Lv} {pid : Option Nat} {fn : FuncId} {u1 u2 : Value}
set_option maxHeartbeats 3200000 in
set_option maxRecDepth 100000 in
theorem mwithin_c (hcall : ∀ w, (callFunc fn #[u1, u2]).run Try.prog w = .ok (.enter fn #[u1, u2]) w) (h : MS G w F ids S) (hp : pushF x S = some S1) (hq : popF S2 = some S3) (hx : LvM w [x] [pid] E) (hE : ∀ k, E k → ¬ F k ∧ k ≠ G.a ∧ k ≠ G.b1 ∧ k ≠ G.b2 ∧ k ≠ G.mb ∧ ¬ G.okl k)
    (hdo : ∀ w1 F1, MS G w1 F1 (pid :: ids) S1 → Kp (fun k => k = G.a ∨ F k ∨ E k) w w1 → (∀ k, F1 k → F k ∨ E k ∨ w.heap.size ≤ k) → Calls Try.prog fn #[u1, u2] w1 fun e w2 => e = .returned (.tuple #[]) ∧ MN G w1 F1 (pid :: ids) w2 S2) :
    Calls Try.prog 90 #[ptr G.a, .agg #[.int .i64 (lvE x pid).1, ptrV (lvE x pid).2], .func (.func fn) #[] #[u1, u2]] w fun e w' => e = .returned (.tuple #[]) ∧ WN G w F E ids pid w' S2 S3 := by
  obtain ⟨hlen, rfl⟩ := pushF_some hp
  obtain ⟨y, hy, hcd⟩ := popF_some hq
  obtain ⟨okc, cv, oko, ov, f, h⟩ := h
  have hll : (lvRow S.opn ids).length = S.opn.length := by have := h.lps.len; simp [lvRow, this]
  have hbW : Below w.heap.size w (w.alloc (.cells #[.int .i64 (lvE x pid).1, ptrV (lvE x pid).2] 130)) := (Below.refl _ _).alloc (Nat.le_refl _) _
  obtain ⟨y0, y1⟩ := cells2 w (.int .i64 (lvE x pid).1) (ptrV (lvE x pid).2) 130
  have hPW := h.kp (K := fun _ => False) (Kp.of_below hbW) ⟨id, id, id, id⟩ (fun _ _ => id) (fun _ _ => id)
  have c5 : (w.alloc (.cells #[.int .i64 (lvE x pid).1, ptrV (lvE x pid).2] 130)).cell? ⟨G.a, 5, none⟩ = some ov := (cell_of_row _ _ _ _ _ _ hPW.cell).trans rfl
  have hne : ov.ownBlock ≠ some w.heap.size := fun e => by have := Kd.R_lt h.opn _ e; omega
  have hna : ov.ownBlock ≠ some G.a := fun e => (h.off _ (h.fo _ (h.opn.1 _ e)).1).1 rfl
  have HB := hid hbW
  have HA := hid hna
  have HY0 := hid hne
  have HP0 := hid hPW
  have H0 := hid h
  have HL := hid (show (lvRow S.opn ids).length < 1048576 by omega)
  have HX := hid hx
  have HE := hid hE
  have HDO := hid hdo
  have HCALL := hid hcall
  have HYY := hid (And.intro hy hcd)
  have hlt := h.lt.1
  have hsz : (w.alloc (.cells #[.int .i64 (lvE x pid).1, ptrV (lvE x pid).2] 130)).heap.size = w.heap.size + 1 := by simp
  clear hcall h hp hq hlen hbW hPW hne hna hx hE hdo hy hcd hll
  unfold ptr
  go_enter Try.func90, Try.ntmps90
  go_upto_region 1 with fail
  have HSZ := hid hsz
  obtain ⟨b, hb⟩ : ∃ b, b = w.heap.size := ⟨_, rfl⟩
  rw [← hb] at y0 y1 HY0 ⊢
  generalize (w.alloc (.cells #[.int .i64 (lvE x pid).1, ptrV (lvE x pid).2] 130)) = W at y0 y1 c5 HB HP0 HSZ ⊢
  have HEB := hid hb
  clear hb hsz
  obtain ⟨ok2, hok2⟩ : ∃ ok2 : Nat → Prop, ok2 = fun k => oko k ∨ w.heap.size ≤ k := ⟨_, rfl⟩
  have HOK := hid hok2
  clear hok2
  have HF : Box (∀ k, W.drew.heap.size ≤ k → ok2 k) := hid (fun k hk => by rw [HOK.out]; exact .inr (Nat.le_trans HB.out.size hk))
  have HN : Box (kLv.R 130 W.drew 0 ok2 ov (lvRow S.opn ids)) := hid (Kd.R_drew (Kd.R_mono HP0.out.opn (fun k hk => by rw [HOK.out]; exact .inl hk)))
  have HY := HY0
  refine wp_region_until [10] (S := (fun w' => w'.cell? ⟨G.a, 5, none⟩ = some (ov) ∧ w'.cell? ⟨b, 0, none⟩ = some (.int .i64 (lvE x pid).1) ∧ w'.cell? ⟨b, 1, none⟩ = some (ptrV (lvE x pid).2))) (by kernel_rfl) ?_ ?_
  · go_keep
  intro hS
  refine wpAnyU_take (i := 0) (v := (.pointer (some ⟨G.a, 0, none⟩))) rfl (by kernel_rfl) (fun _ _ _ h => h) (leads_of [[10]] (by kernel_rfl)) (by kernel_rfl) (by kernel_rfl) (by kernel_rfl) (Or.inl ⟨by rfl, ?_⟩) hS ?_
  · intro w' hS'
    obtain ⟨s0, s1, s2⟩ := hS'
    go_simp
  change wpAnyU _ _ _ _ _ _ _ _ (Act.put _ (some 6) _) _
  simp only [Act.put, List.setIfInBounds_toArray, List.set_cons_succ, List.set_cons_zero]
  refine wpAnyU_take (i := 1) (v := (.pointer (some ⟨G.a, 0, none⟩))) rfl (by kernel_rfl) (fun _ _ _ h => h) (leads_of [[10]] (by kernel_rfl)) (by kernel_rfl) (by kernel_rfl) (by kernel_rfl) (Or.inl ⟨by rfl, ?_⟩) hS ?_
  · intro w' hS'
    obtain ⟨s0, s1, s2⟩ := hS'
    go_simp
  change wpAnyU _ _ _ _ _ _ _ _ (Act.put _ (some 7) _) _
  simp only [Act.put, List.setIfInBounds_toArray, List.set_cons_succ, List.set_cons_zero]
  refine wpAnyU_take (i := 2) (v := (.pointer (some ⟨G.a, 0, none⟩))) rfl (by kernel_rfl) (fun _ _ _ h => h) (leads_of [[10]] (by kernel_rfl)) (by kernel_rfl) (by kernel_rfl) (by kernel_rfl) (Or.inl ⟨by rfl, ?_⟩) hS ?_
  · intro w' hS'
    obtain ⟨s0, s1, s2⟩ := hS'
    go_simp
  change wpAnyU _ _ _ _ _ _ _ _ (Act.put _ (some 8) _) _
  simp only [Act.put, List.setIfInBounds_toArray, List.set_cons_succ, List.set_cons_zero]
  refine wpAnyU_take (i := 3) (v := (.pointer (some ⟨G.a, 5, none⟩))) rfl (by kernel_rfl) (fun _ _ _ h => h) (leads_of [[10]] (by kernel_rfl)) (by kernel_rfl) (by kernel_rfl) (by kernel_rfl) (Or.inl ⟨by rfl, ?_⟩) hS ?_
  · intro w' hS'
    obtain ⟨s0, s1, s2⟩ := hS'
    go_simp
  change wpAnyU _ _ _ _ _ _ _ _ (Act.put _ (some 9) _) _
  simp only [Act.put, List.setIfInBounds_toArray, List.set_cons_succ, List.set_cons_zero]
  refine wpAnyU_take (i := 4) (v := (ov)) rfl (by kernel_rfl) (fun _ _ _ h => h) (leads_of [[10]] (by kernel_rfl)) (by kernel_rfl) (by kernel_rfl) (by kernel_rfl) (Or.inl ⟨by rfl, ?_⟩) hS ?_
  · intro w' hS'
    obtain ⟨s0, s1, s2⟩ := hS'
    go_simp
  change wpAnyU _ _ _ _ _ _ _ _ (Act.put _ (some 10) _) _
  simp only [Act.put, List.setIfInBounds_toArray, List.set_cons_succ, List.set_cons_zero]
  refine wpAnyU_take (i := 5) (v := (.agg #[.int .i64 (lvE x pid).1, ptrV (lvE x pid).2])) rfl (by kernel_rfl) (fun _ _ _ h => h) (leads_of [[10]] (by kernel_rfl)) (by kernel_rfl) (by kernel_rfl) (by kernel_rfl) (Or.inl ⟨by rfl, ?_⟩) hS ?_
  · intro w' hS'
    obtain ⟨s0, s1, s2⟩ := hS'
    go_simp
  change wpAnyU _ _ _ _ _ _ _ _ (Act.put _ (some 11) _) _
  simp only [Act.put, List.setIfInBounds_toArray, List.set_cons_succ, List.set_cons_zero]
  refine wpAnyU_all (rs := [6]) (by kernel_rfl) (by simp) ?_
  intro j hj
  obtain rfl := List.mem_singleton.1 hj
  clear hj
  refine wpOp_shut rfl (fun K' HK => ?_)
  go_simp
  have HB6 := hid (below_alloc (Below.refl W.drew.heap.size W.drew) (.cells #[.int .i64 (lvE x pid).1, ptrV (lvE x pid).2] 130))
  refine HK.out _ _ ⟨.inr ?_, ?_⟩
  · exact ⟨keepc HB6.out c5, keepc HB6.out y0, keepc HB6.out y1⟩
  clear HK K'
  have hS := And.intro (keepc HB6.out c5) (And.intro (keepc HB6.out y0) (keepc HB6.out y1))
  try simp only [Act.put, List.setIfInBounds_toArray, List.set_cons_succ, List.set_cons_zero]
  refine wpAnyU_all (rs := [7]) (by kernel_rfl) (by simp) ?_
  intro j hj
  obtain rfl := List.mem_singleton.1 hj
  clear hj
  refine wpOp_shut rfl (fun K' HK => ?_)
  refine R_step_any kLv (w0 := W) (W := W.drew) 0 ?h0 (.tmp 10) (.tmp 12) 71 130 _ 16 ?h1 Try.underlying71 infoLv rfl (by decide) (by decide) ov (lvRow S.opn ids) (lvE x pid) (lvCs (lvE x pid)) ok2 (fun _ => False) ?c1 ?c2 ?c3 ?c4 ?c5 ?c6 ?c7 ?c8 ?c9 ?c10
  (case h0 => rfl)
  (case h1 => rfl)
  (case c1 => rfl)
  (case c2 => rfl)
  (case c3 => exact kLv_M _ _ _ _)
  (case c4 => exact fun k hk => hk.elim)
  (case c5 => exact HF.out)
  (case c6 => exact HN.out)
  (case c7 => exact (Below.refl 0 W).drew)
  (case c8 => exact Nat.zero_le _)
  (case c9 => have := HL.out; omega)
  intro v1 w1 hN hB hg hat
  obtain ⟨A1, cap1, rfl⟩ := Kd.R_slice hN
  rw [List.length_append, List.length_singleton] at hN ⊢
  have HN1 := hid hN
  have HG1 := hid hg
  have hc1 := (hg.block G.a (Nat.lt_of_lt_of_le hlt HB.out.size) (fun e => HA.out e.symm)).trans HP0.out.cell
  have f7 : w1.frozen? ⟨G.a, 5, none⟩ = false := by simp [World.frozen?, show w1.heap[G.a]? = _ from hc1]
  have HC1 := hid (show w1.heap[G.a]? = _ from hc1)
  clear hc1
  clear hN hB hg hat
  have z7 := keepg HG1.out HA.out c5
  have z10 := keepg HG1.out HY.out y0
  have z11 := keepg HG1.out HY.out y1
  refine HK.out _ _ ⟨.inr ?_, ?_⟩
  · exact ⟨z7, z10, z11⟩
  clear HK K'
  have hS := And.intro (z7) (And.intro (z10) (z11))
  change wpAnyU _ _ _ _ _ _ _ _ (Act.put _ (some 13) _) _
  simp only [Act.put, List.setIfInBounds_toArray, List.set_cons_succ, List.set_cons_zero]
  refine wpAnyU_take (i := 8) (v := (.pointer (some ⟨G.a, 0, none⟩))) rfl (by kernel_rfl) (fun _ _ _ h => h) (leads_of [[9, 10]] (by kernel_rfl)) (by kernel_rfl) (by kernel_rfl) (by kernel_rfl) (Or.inl ⟨by rfl, ?_⟩) hS ?_
  · intro w' hS'
    obtain ⟨s0, s1, s2⟩ := hS'
    go_simp
  change wpAnyU _ _ _ _ _ _ _ _ (Act.put _ (some 14) _) _
  simp only [Act.put, List.setIfInBounds_toArray, List.set_cons_succ, List.set_cons_zero]
  refine wpAnyU_take (i := 9) (v := (.pointer (some ⟨G.a, 5, none⟩))) rfl (by kernel_rfl) (fun _ _ _ h => h) (leads_of [[10]] (by kernel_rfl)) (by kernel_rfl) (by kernel_rfl) (by kernel_rfl) (Or.inl ⟨by rfl, ?_⟩) hS ?_
  · intro w' hS'
    obtain ⟨s0, s1, s2⟩ := hS'
    go_simp
  change wpAnyU _ _ _ _ _ _ _ _ (Act.put _ (some 15) _) _
  simp only [Act.put, List.setIfInBounds_toArray, List.set_cons_succ, List.set_cons_zero]
  refine wpAnyU_all (rs := [10]) (by kernel_rfl) (by simp) ?_
  intro j hj
  obtain rfl := List.mem_singleton.1 hj
  clear hj
  refine wpOp_shut rfl (fun K' HK => ?_)
  go_simp
  refine HK.out _ _ ⟨.inl (by decide), ?_⟩
  clear HK K'
  refine wpAnyU_done (by kernel_rfl) ?_ _
  have hP := H0.out.pushed (x := x) (pid := pid) (HB.out.drew) HG1.out HOK.out HN1.out HX.out (fun k q => HE.out k q) HC1.out
  have HKP := hid (show Kp (fun k => k = G.a ∨ F k ∨ E k) w (w1.setCell ⟨G.a, 5, none⟩ (.slice A1 ((lvRow S.opn ids).length + 1) cap1)) from ((Kp.of_below HB.out.drew).trans (Kp.grown (K := fun k => k = G.a ∨ F k ∨ E k) (w := W.drew) HG1.out (fun k e => .inr (.inl (H0.out.fo k (H0.out.opn.1 k e)).1))) (fun _ h => .inl h)).trans (Kp.set (K := fun k => k = G.a ∨ F k ∨ E k) _ (.inl rfl)) (fun _ h => .inl h))
  have hdo := HDO.out _ _ ⟨_, _, _, _, _, hP⟩ HKP.out (fun k q => q.1)
  have HDO2 := hid hdo
  have HF1 := hid (fun k (q : (F k ∨ E k ∨ w.heap.size ≤ k) ∧ k < w1.heap.size) => q.1)
  clear hP hdo HDO HN1 HG1 HF HN hS y0 y1 c5 f7 HC1 z7 z10 z11
  generalize (w1.setCell ⟨G.a, 5, none⟩ (.slice A1 ((lvRow S.opn ids).length + 1) cap1)) = W2 at *
  have hcall := HCALL.out
  go_wp2_with fail
  refine HDO2.out.mono ?_
  rintro e w2 ⟨rfl, F2, ⟨oc, cv2, oo, ov2, f2, h2⟩, k2, s2⟩
  obtain ⟨code2, opn2⟩ := S2
  obtain ⟨code3, opn3⟩ := S3
  obtain ⟨hy, hcd⟩ := HYY.out
  dsimp only at hy hcd
  subst hy hcd
  obtain ⟨A2, c2, rfl⟩ := Kd.R_slice h2.opn
  obtain ⟨n, hn⟩ : ∃ n, n = (lvRow opn3 ids).length := ⟨_, rfl⟩
  have hl2 : (lvRow (y :: opn3) (pid :: ids)).length = n + 1 := by rw [lvRow_cons, List.length_append, List.length_singleton, hn]
  rw [hl2] at h2
  have hrd := Kd.R_reads' h2.opn
  have hmax := Kd.C_max hrd.2.2
  rw [hl2] at hmax
  have hmc := hrd.2.1
  clear hcall
  have c5 : w2.cell? ⟨G.a, 5, none⟩ = some (.slice A2 (n + 1) c2) := (cell_of_row _ _ _ _ _ _ h2.cell).trans rfl
  have f5 : w2.frozen? ⟨G.a, 5, none⟩ = false := by simp [World.frozen?, h2.cell]
  have e1 : IntKind.i64.wrap (((n + 1 : Nat) : Int) - 1) = (n : Int) := by rw [wrapI ⟨by omega, by omega⟩]; omega
  have e2 : IntKind.i64.wrap (n : Int) = (n : Int) := wrapI ⟨by omega, by omega⟩
  have e3 : (0 : Int) ≤ (n : Int) := by omega
  have e4 : (n : Int) ≤ (c2 : Int) := by omega
  have HPOP := hid (h2.popped (W := w2.drew) hn (below_drew (Below.refl _ _)))
  have H2 := hid h2
  have K2 := hid k2
  have S2' := hid s2
  clear h2 k2 s2 hrd hmax hmc hl2 hn
  go_wp2_with fail
  go_still_tail 12, (by kernel_rfl)
  change wpList _ _ _ _ _ w2.drew
  go_wp2_with fail
  obtain ⟨E', f1, g1, g2, g3⟩ := HPOP.out
  refine bodyPost_end (results_none rfl _ _ _) rfl ⟨rfl, y, _, E', rfl, g1, ⟨_, _, _, _, _, g3⟩, fun k q => q.2, ?_, ?_, ?_⟩
  · exact ((HKP.out.trans K2.out (fun k q => q.elim (fun e => .inl (.inl e)) (fun q => (HF1.out k q).elim (fun q => .inl (.inr (.inl q))) (fun q => q.elim (fun q => .inl (.inr (.inr q))) .inr)))).below (below_drew (Below.refl _ _))).trans (Kp.set (K := fun k => k = G.a ∨ F k ∨ E k) (p := ⟨G.a, 5, none⟩) _ (.inl rfl)) (fun _ h => .inl h)
  · intro k q
    have hq : F2 k := q.elim (fun q => q.1) (g2 k)
    exact (S2'.out k hq).elim (HF1.out k) (fun q => .inr (.inr (Nat.le_trans HKP.out.size q)))
  · intro k q
    obtain ⟨a1, a2, a3, a4, a5, a6⟩ := H2.out.off k (g2 k q)
    exact ⟨a1, a2, a3, a4, a5, by simpa using a6⟩
end
end Go.Proofs.Ytibepkblgliooaa.Q
namespace Go.Proofs.Ytibepkblgliooaa.Q
open Go.RowKit
open Go.Proofs.YtibepkblgliooaaW.PrintWords
/-- The next loop's block. -/
def idF : List Lv → List (Option Nat) → Option Nat
  | .lp _ _ :: _, p :: _ => p
  | .lv _ :: r, _ :: ids => idF r ids
  | _, _ => none
/-- What out tells: the next loop, or a new one. -/
def OutP (w w' : World) (G : MG) (F' : Nat → Prop) (o : Option Nat) (p : Nat) : Prop := match o with
  | some q => p = q
  | none => w'.heap[p]? = some (.cells #[.int .i64 0, .slice none 0 0] 123 (0, 0)) ∧ ¬ F' p ∧ p ≠ G.a ∧ w.heap.size ≤ p
def OutR (G : MG) (w : World) (F : Nat → Prop) (ids : List (Option Nat)) (S S' : Mk) (e : Ending) (w' : World) : Prop :=
  ∃ p F', e = .returned (.pointer (some ⟨p, 0, none⟩)) ∧ MS G w' F' ids S' ∧ Kp (MK G F) w w' ∧ (∀ k, F' k → F k ∨ w.heap.size ≤ k) ∧ OutP w w' G F' (idF S.opn ids) p
theorem LvM.someAt {w : World} {L : List Lv} {ids : List (Option Nat)} {f : Nat → Prop} (h : LvM w L ids f) : ∀ {k t : Nat} {o : List Nat}, L[k]? = some (.lp t o) → ∃ p, ids[k]? = some (some p) := by
  induction h with
  | nil => intro k t o h; simp at h
  | lv _ ih =>
    intro k t o h
    cases k with
    | zero => simp at h
    | succ k => exact ih (k := k) (by simpa using h)
  | @lp p _ _ _ _ _ _ _ _ _ _ _ _ _ ih =>
    intro k t o h
    cases k with
    | zero => exact ⟨p, rfl⟩
    | succ k => exact ih (k := k) (by simpa using h)
theorem putOpn {S S' : Mk} {x : Ins} (h : S.put x = some S') : S'.opn = S.opn := by rw [(put_some h).2]
/-- An element of the row of what lies open. -/
theorem MS.lvAt {G : MG} {w : World} {F : Nat → Prop} {ids : List (Option Nat)} {S : Mk} (h : MS G w F ids S) {k : Nat} {x : Lv} (hx : S.opn[k]? = some x) : ∃ pid g c, ids[k]? = some pid ∧ (∀ t o, x = .lp t o → ∃ p, pid = some p) ∧ w.cell? ⟨G.a, 5, none⟩ = some (.slice (some ⟨g, 0, none⟩) S.opn.length c) ∧
    w.cell? ⟨g, (S.opn.length - 1 - k) * 2, none⟩ = some (.int .i64 (lvE x pid).1) ∧ w.cell? ⟨g, (S.opn.length - 1 - k) * 2 + 1, none⟩ = some (ptrV (lvE x pid).2) := by
  obtain ⟨okc, cv, oko, ov, f, h⟩ := h
  have hlt := (List.getElem?_eq_some_iff.1 hx).1
  have hil := h.lps.len
  have hrl : (lvRow S.opn ids).length = S.opn.length := by simp [lvRow, hil]
  obtain ⟨pid, hp⟩ : ∃ pid, ids[k]? = some pid := ⟨_, List.getElem?_eq_getElem (by omega)⟩
  obtain ⟨g, c, rfl, _⟩ := Kd.R_form h.opn (by omega)
  rw [hrl] at h
  obtain ⟨cs, hl, hM, hc, hf⟩ := Kd.R_elem h.opn (lvE x pid) ((S.opn.length - 1 - k : Nat) : Int) (by omega) (by omega)
  have hz : (List.zipWith lvE S.opn ids).length = S.opn.length := by simp [hil]
  have hx' : (lvRow S.opn ids).getD (((S.opn.length - 1 - k : Nat) : Int)).toNat (lvE x pid) = lvE x pid := by
    rw [Int.toNat_natCast, List.getD_eq_getElem?_getD]
    unfold lvRow
    rw [List.getElem?_reverse (by omega), hz, show S.opn.length - 1 - (S.opn.length - 1 - k) = k by omega, List.getElem?_zipWith, hx, hp]
    rfl
  rw [hx'] at hM
  obtain rfl := kLv_K (kLv.K_of_M hM)
  refine ⟨pid, g, c, hp, fun t o e => ?_, (cell_of_row _ _ _ _ _ _ h.cell).trans rfl, ?_, ?_⟩
  · subst e
    obtain ⟨p, h2⟩ := h.lps.someAt hx
    rw [hp] at h2
    exact ⟨p, Option.some.inj h2⟩
  · have := hc 0 _ rfl
    simpa [show kLv.sz = 2 from rfl] using this
  · have := hc 1 _ rfl
    simpa [show kLv.sz = 2 from rfl] using this
theorem MS.lvLen {G : MG} {w : World} {F : Nat → Prop} {ids : List (Option Nat)} {S : Mk} (h : MS G w F ids S) : ∃ A c, w.cell? ⟨G.a, 5, none⟩ = some (.slice A S.opn.length c) ∧ ids.length = S.opn.length ∧ S.opn.length ≤ 9223372036854775807 := by
  obtain ⟨okc, cv, oko, ov, f, h⟩ := h
  have hil := h.lps.len
  have hrl : (lvRow S.opn ids).length = S.opn.length := by simp [lvRow, hil]
  obtain ⟨A, c, rfl⟩ := Kd.R_slice h.opn
  have hm := Kd.C_max (Kd.R_reads' h.opn).2.2
  rw [hrl] at h hm
  exact ⟨A, c, (cell_of_row _ _ _ _ _ _ h.cell).trans rfl, hil, hm⟩
section
variable {G : MG} {w w' : World} {F : Nat → Prop} {ids : List (Option Nat)} {S S' : Mk}
set_option maxHeartbeats 1600000 in
set_option maxRecDepth 100000 in
theorem mout_c (h : MS G w F ids S) (hr : awayF S.opn S = some S') :
    Calls Try.prog 79 #[ptr G.a] w (OutR G w F ids S S') := by
  obtain ⟨A, c, c5, hil, hmx⟩ := h.lvLen
  have HS := hid h.same
  have HR := hid hr
  have HIL := hid hil
  have e0 : IntKind.i64.wrap ((S.opn.length : Int) - 1) = (S.opn.length : Int) - 1 := wrapI ⟨by omega, by omega⟩
  clear h hr hil
  unfold ptr
  go_enter Try.func79, Try.ntmps79
  go_wp2_with fail
  clear c5
  go_loopw [3] (fun x wx => ∃ (k : Nat) (T : Mk), k ≤ S.opn.length ∧ x = .int .i64 ((S.opn.length : Int) - 1 - k) ∧ Box (MN G w F ids wx T) ∧ Box (T.opn = S.opn ∧ awayF (S.opn.drop k) T = some S' ∧ idF (S.opn.drop k) (ids.drop k) = idF S.opn ids)) (fun x _ => ((RowKit.intOf x) + 1).toNat)
  case atStart => exact ⟨0, S, Nat.zero_le _, by simp, HS, hid ⟨rfl, HR.out, rfl⟩⟩
  case round =>
    clear HR HS
    obtain ⟨k, T, hk, rfl, HT, HR⟩ := hrel
    rcases Nat.lt_or_ge k S.opn.length with hlt | hge
    · obtain ⟨F1, h1, k1, s1⟩ := id HT.out
      obtain ⟨hTo, hr, hid'⟩ := HR.out
      obtain ⟨x, hx⟩ : ∃ x, S.opn[k]? = some x := ⟨_, List.getElem?_eq_getElem hlt⟩
      obtain ⟨pid, g, c, hp, hsome, c5, d0, d1⟩ := h1.lvAt (k := k) (x := x) (by rw [hTo]; exact hx)
      rw [hTo] at c5 d0 d1
      have hdr : S.opn.drop k = x :: S.opn.drop (k + 1) := by
        rw [List.drop_eq_getElem_cons hlt]
        congr 1
        rw [List.getElem?_eq_getElem hlt] at hx
        exact Option.some.inj hx
      have hdi : ids.drop k = pid :: ids.drop (k + 1) := by
        have hl : k < ids.length := by have := HIL.out; omega
        rw [List.drop_eq_getElem_cons hl]
        congr 1
        rw [List.getElem?_eq_getElem hl] at hp
        exact Option.some.inj hp
      rw [hdr] at hr
      rw [hdr, hdi] at hid'
      have hge0 : (0 : Int) ≤ (S.opn.length : Int) - 1 - k := by omega
      have hltn : (S.opn.length : Int) - 1 - k < (S.opn.length : Int) := by omega
      have en : ((S.opn.length : Int) - 1 - k).toNat = S.opn.length - 1 - k := by omega
      have hb := (Below.refl wr.heap.size wr).alloc (Nat.le_refl _) (.cells #[.int .i64 (lvE x pid).1, ptrV (lvE x pid).2] 130)
      cases x with
      | lp t o =>
        obtain ⟨p, rfl⟩ := hsome t o rfl
        have hr' : T = S' := Option.some.inj hr
        subst hr'
        have hid'' : some p = idF S.opn ids := hid'
        have HID := hid hid''
        have H1 := hid (h1.below hb)
        have K1 := hid (k1.below hb)
        have S1 := hid s1
        unfold lvE ptrV at *
        simp only [Option.map_some] at d1
        clear h1 k1 s1 hr hid' hid'' hdr hdi hx hp hsome HT HR hTo hb
        go_wp2_with fail
        go_ret
        exact ⟨p, F1, rfl, H1.out, K1.out, S1.out, by rw [← HID.out]; rfl⟩
      | lv op =>
        have hr' : (T.put (iN op 0)).bind (awayF (S.opn.drop (k + 1))) = some S' := hr
        obtain ⟨T1, ht1, hr2⟩ := Option.bind_eq_some_iff.1 hr'
        have hput := mput_c (h1.below hb) ht1
        unfold ptr at hput
        have HPUT := hid hput
        have HR2 := hid (⟨(putOpn ht1).trans hTo, hr2, hid'⟩ : T1.opn = S.opn ∧ awayF (S.opn.drop (k + 1)) T1 = some S' ∧ idF (S.opn.drop (k + 1)) (ids.drop (k + 1)) = idF S.opn ids)
        have K1 := hid (k1.below hb)
        have S1 := hid s1
        have hgl := cell_lt d0
        have c5l := cell_lt c5
        unfold lvE ptrV at *
        simp only [Option.map_none] at d1
        clear h1 k1 s1 hr hr' hr2 ht1 hput hid' hdr hdi hx hp hsome HT HR hTo hb
        go_wp2_with fail
        refine HPUT.out.mono ?_
        rintro e w2 ⟨rfl, hN⟩
        have HT2 := hid (MN.of K1.out S1.out hN)
        clear hN
        go_wp2_with fail
        go_roundw
        case rel => exact ⟨k + 1, T1, by omega, by rw [show (S.opn.length : Int) - 1 - ((k + 1 : Nat) : Int) = (S.opn.length : Int) - 1 - k - 1 by omega], HT2, HR2⟩
        case measure => simp [RowKit.intOf]; omega
    · obtain rfl : k = S.opn.length := by omega
      obtain ⟨F1, h1, k1, s1⟩ := id HT.out
      obtain ⟨hTo, hr, hid'⟩ := HR.out
      rw [List.drop_length] at hr hid'
      obtain rfl : T = S' := Option.some.inj hr
      have hneg : ¬ (0 : Int) ≤ (S.opn.length : Int) - 1 - (S.opn.length : Int) := by omega
      have hnone : idF S.opn ids = none := by rw [← hid']; rfl
      have hb := (Below.refl wr.heap.size wr).alloc (Nat.le_refl _) (.cells #[.int .i64 0, .slice none 0 0] 123)
      have HNONE := hid hnone
      have H1 := hid (h1.below hb)
      have HW := hid (And.intro k1.size (And.intro h1.lt.1 (fun (q : F1 wr.heap.size) => by have := (h1.off _ q).2.2.2.2.2; omega : ¬ F1 wr.heap.size)))
      have K1 := hid (k1.below hb)
      have S1 := hid s1
      clear h1 k1 s1 hr hid' hnone hb HT HR hTo
      go_wp2_with fail
      go_ret
      refine ⟨_, F1, rfl, H1.out, K1.out, S1.out, ?_⟩
      rw [HNONE.out]
      exact ⟨heap_alloc_new _ _, HW.out.2.2, by have := HW.out.2.1; omega, HW.out.1⟩
/-- node, so many calls deep, does what nodeM says. -/
def NodeOk (G : MG) (m : Nat) : Prop := ∀ {k : Nat} {S S' : Mk}, nodeM G.l G.spots G.slots G.funs m k S = some S' → ∀ {w : World} {F : Nat → Prop} {ids : List (Option Nat)}, MS G w F ids S →
  Calls Try.prog 46 #[ptr G.a, .int .i64 k] w fun e w' => e = .returned (.tuple #[]) ∧ MN G w F ids w' S'
set_option maxHeartbeats 1600000 in
set_option maxRecDepth 100000 in
theorem mall_c {m : Nat} (ih : NodeOk G m) {ks : List Nat} {A : Option Addr} {c : Nat} (h : MS G w F ids S) (hr : allM (nodeM G.l G.spots G.slots G.funs m) ks S = some S') (hk : Kd.F (Kd.int .i64) w G.okl A ks.length (ints ks)) :
    Calls Try.prog 23 #[ptr G.a, .slice A ks.length c] w fun e w' => e = .returned (.tuple #[]) ∧ MN G w F ids w' S' := by
  have hmax : ks.length ≤ 9223372036854775807 := Kd.F_max hk
  have HK := hid hk
  have HO := hid h.offl
  have HR := hid hr
  have HS := hid h.same
  have IH := hid @ih
  clear h hr hk ih
  unfold ptr
  go_enter Try.func23, Try.ntmps23
  go_wp2_with fail
  go_loopw [8] (fun x wx => ∃ (j : Nat) (T : Mk), j ≤ ks.length ∧ x = .int .i64 j ∧ Box (MN G w F ids wx T) ∧ Box (allM (nodeM G.l G.spots G.slots G.funs m) (ks.drop j) T = some S')) (fun x _ => ks.length - (RowKit.intOf x).toNat)
  case atStart => exact ⟨0, S, Nat.zero_le _, rfl, HS, HR⟩
  case round =>
    clear HR HS
    obtain ⟨j, T, hj, rfl, HT, HR⟩ := hrel
    rcases Nat.lt_or_ge j ks.length with hlt | hge
    · have hlt' : (j : Int) < (ks.length : Int) := by omega
      obtain ⟨F1, h1, k1, s1⟩ := id HT.out
      have hk1 := Kd.F_step HK.out (W1 := wr) (fun j hj _ => k1.offM HO.out j hj)
      obtain ⟨ad, rfl, hc⟩ := Kd.at_int (Kd.F_now hk1) (j : Int) (by omega) (by omega)
      have hx : rd (ints ks) (j : Int) = (ks[j] : Int) := by unfold rd ints; simp [hlt]
      rw [hx, Int.toNat_natCast] at hc
      have hr := HR.out
      rw [List.drop_eq_getElem_cons hlt] at hr
      unfold allM at hr
      obtain ⟨T2, ht, hr⟩ := Option.bind_eq_some_iff.1 hr
      generalize ks[j] = k at hc ht
      have hnode := IH.out ht h1
      unfold ptr at hnode
      have HN := hid hnode
      have HR2 := hid hr
      have K1 := hid k1
      have S1 := hid s1
      clear hx hr ht HR HT h1 k1 s1 hk1 hnode
      go_wp2_with fail
      refine HN.out.mono ?_
      rintro e w2 ⟨rfl, hN⟩
      have HT2 := hid (MN.of K1.out S1.out hN)
      clear hN
      go_wp2_with fail
      go_roundw
      case rel => exact ⟨j + 1, T2, by omega, by go_num, HT2, HR2⟩
      case measure => simp [RowKit.intOf]; omega
    · obtain rfl : j = ks.length := by omega
      have hr := HR.out
      rw [List.drop_length] at hr
      obtain rfl : T = S' := Option.some.inj hr
      clear hr
      go_wp2_with fail
      exact bodyPost_end (results_none rfl _ _ _) rfl ⟨rfl, HT.out⟩
end
end Go.Proofs.Ytibepkblgliooaa.Q
namespace Go.Proofs.Ytibepkblgliooaa.Q
open Go.RowKit
open Go.Proofs.YtibepkblgliooaaW.PrintWords
/-- A node's six cells. -/
def ndCs (n : Nd) (A3 : Option Addr) (c3 : Nat) (A4 : Option Addr) (c4 : Nat) : Array Value := #[.int .i64 n.kind, .int .i64 n.num, .string n.text, .slice A3 n.names.length c3, .slice A4 n.kids.length c4, .int .i64 n.at_]
structure NBx (G : MG) (w : World) (nb : Nat) (n : Nd) (A3 : Option Addr) (c3 : Nat) (A4 : Option Addr) (c4 : Nat) : Prop where
  row : w.heap[nb]? = some (.cells (ndCs n A3 c3 A4 c4) 37 (0, 0))
  l3 : n.names.length ≤ c3
  f3 : Kd.F Kd.string w G.okl A3 n.names.length n.names
  l4 : n.kids.length ≤ c4
  f4 : Kd.F (Kd.int .i64) w G.okl A4 n.kids.length (ints n.kids)
section
variable {G : MG} {w w' w0 : World} {F K : Nat → Prop} {ids : List (Option Nat)} {S S' : Mk} {nb : Nat} {n : Nd} {A3 A4 : Option Addr} {c3 c4 k : Nat}
/-- A node of the tree, in a box. -/
theorem MS.box (h : MS G w F ids S) (hn : G.l[k]? = some n) : ∃ A3 c3 A4 c4, k < G.l.length ∧ w.cell? ⟨G.g, k * 6, none⟩ = some (.int .i64 n.kind) ∧ w.cell? ⟨G.g, k * 6 + 1, none⟩ = some (.int .i64 n.num) ∧ w.cell? ⟨G.g, k * 6 + 2, none⟩ = some (.string n.text) ∧ w.cell? ⟨G.g, k * 6 + 3, none⟩ = some (.slice A3 n.names.length c3) ∧ w.cell? ⟨G.g, k * 6 + 4, none⟩ = some (.slice A4 n.kids.length c4) ∧ w.cell? ⟨G.g, k * 6 + 5, none⟩ = some (.int .i64 n.at_) ∧
    NBx G (w.alloc (.cells (ndCs n A3 c3 A4 c4) 37)) w.heap.size n A3 c3 A4 c4 ∧ n.names.length ≤ c3 ∧ Kd.F Kd.string w G.okl A3 n.names.length n.names ∧ n.kids.length ≤ c4 ∧ Kd.F (Kd.int .i64) w G.okl A4 n.kids.length (ints n.kids) := by
  obtain ⟨A3, c3, A4, c4, hlt, n0, n1, n2, n3, n4, n5, l3, f3, l4, f4⟩ := h.nodes.node hn
  have hb := (Below.refl w.heap.size w).alloc (Nat.le_refl _) (.cells (ndCs n A3 c3 A4 c4) 37)
  exact ⟨A3, c3, A4, c4, hlt, n0, n1, n2, n3, n4, n5, ⟨heap_alloc_new _ _, l3, Kd.F_below f3 hb, l4, Kd.F_below f4 hb⟩, l3, f3, l4, f4⟩
theorem NBx.new (l3 : n.names.length ≤ c3) (f3 : Kd.F Kd.string w G.okl A3 n.names.length n.names) (l4 : n.kids.length ≤ c4) (f4 : Kd.F (Kd.int .i64) w G.okl A4 n.kids.length (ints n.kids)) : NBx G (w.alloc (.cells (ndCs n A3 c3 A4 c4) 37)) w.heap.size n A3 c3 A4 c4 :=
  have hb := (Below.refl w.heap.size w).alloc (Nat.le_refl _) (.cells (ndCs n A3 c3 A4 c4) 37)
  ⟨heap_alloc_new _ _, l3, Kd.F_below f3 hb, l4, Kd.F_below f4 hb⟩
theorem NBx.kp (b : NBx G w nb n A3 c3 A4 c4) (hk : Kp K w w') (h1 : ¬ K nb) (h2 : ∀ k, G.okl k → k < w.heap.size ∧ ¬ K k) : NBx G w' nb n A3 c3 A4 c4 :=
  ⟨hk.heap b.row h1, b.l3, Kd.F_step b.f3 (fun j q _ => hk.block j (h2 j q).1 (h2 j q).2), b.l4, Kd.F_step b.f4 (fun j q _ => hk.block j (h2 j q).1 (h2 j q).2)⟩
theorem NBx.below (b : NBx G w nb n A3 c3 A4 c4) (hb : Below w.heap.size w w') : NBx G w' nb n A3 c3 A4 c4 :=
  ⟨(hb.block _ (Array.getElem?_eq_some_iff.1 b.row).1).trans b.row, b.l3, Kd.F_below b.f3 hb, b.l4, Kd.F_below b.f4 hb⟩
/-- Behind calls of a maker's. -/
theorem NBx.at (b : NBx G w nb n A3 c3 A4 c4) (h : MS G w F ids S) (hn : ¬ MK G F nb) (hk : Kp (MK G F) w w') : NBx G w' nb n A3 c3 A4 c4 :=
  b.kp hk hn (fun k q => ⟨(h.offl k q).2.2, fun e => e.elim (h.offl k q).1 (h.offl k q).2.1⟩)
theorem NBx.m0 (b : NBx G w nb n A3 c3 A4 c4) : w.cell? ⟨nb, 0, none⟩ = some (.int .i64 n.kind) := (cell_of_row _ _ _ _ _ _ b.row).trans rfl
theorem NBx.m1 (b : NBx G w nb n A3 c3 A4 c4) : w.cell? ⟨nb, 1, none⟩ = some (.int .i64 n.num) := (cell_of_row _ _ _ _ _ _ b.row).trans rfl
theorem NBx.m2 (b : NBx G w nb n A3 c3 A4 c4) : w.cell? ⟨nb, 2, none⟩ = some (.string n.text) := (cell_of_row _ _ _ _ _ _ b.row).trans rfl
theorem NBx.m3 (b : NBx G w nb n A3 c3 A4 c4) : w.cell? ⟨nb, 3, none⟩ = some (.slice A3 n.names.length c3) := (cell_of_row _ _ _ _ _ _ b.row).trans rfl
theorem NBx.m4 (b : NBx G w nb n A3 c3 A4 c4) : w.cell? ⟨nb, 4, none⟩ = some (.slice A4 n.kids.length c4) := (cell_of_row _ _ _ _ _ _ b.row).trans rfl
theorem NBx.m5 (b : NBx G w nb n A3 c3 A4 c4) : w.cell? ⟨nb, 5, none⟩ = some (.int .i64 n.at_) := (cell_of_row _ _ _ _ _ _ b.row).trans rfl
theorem MS.free (h : MS G w F ids S) : ¬ MK G F w.heap.size := fun q => q.elim (fun q => by have := h.lt.1; omega) (fun q => by have := (h.off _ q).2.2.2.2.2; omega)
theorem NBx.some (b : NBx G w nb n A3 c3 A4 c4) (hk : 0 < n.kids.length) : ∃ ad, A4 = .some ad := by
  obtain ⟨ad, e, _⟩ := Kd.at_int (Kd.F_now b.f4) 0 (by omega) (by omega)
  exact ⟨ad, e⟩
theorem NBx.kid {ad : Addr} {i : Nat} (b : NBx G w nb n A3 c3 (.some ad) c4) (hk : n.kids[i]? = .some k) : w.cell? (ad.add i) = .some (.int .i64 k) := by
  have hi := (List.getElem?_eq_some_iff.1 hk).1
  obtain ⟨ad', e, q⟩ := Kd.at_int (Kd.F_now b.f4) (i : Int) (by omega) (by omega)
  injection e with e
  subst e
  have hx : rd (ints n.kids) (i : Int) = (k : Int) := by unfold rd ints; simp [List.getElem?_map, hk]
  rw [hx, Int.toNat_natCast] at q
  exact q
theorem NBx.kid0 {ad : Addr} (b : NBx G w nb n A3 c3 (.some ad) c4) (hk : n.kids[0]? = .some k) : w.cell? ad = .some (.int .i64 k) := by simpa [Addr.add] using b.kid hk
theorem NBx.kid1 {ad : Addr} (b : NBx G w nb n A3 c3 (.some ad) c4) (hk : n.kids[1]? = .some k) : w.cell? ⟨ad.block, ad.off + 1, none⟩ = .some (.int .i64 k) := by simpa [Addr.add] using b.kid hk
theorem NBx.kid2 {ad : Addr} (b : NBx G w nb n A3 c3 (.some ad) c4) (hk : n.kids[2]? = .some k) : w.cell? ⟨ad.block, ad.off + 2, none⟩ = .some (.int .i64 k) := by simpa [Addr.add] using b.kid hk
theorem ints_drop (l : List Nat) : (ints l).drop 1 = ints l.tail := by cases l <;> rfl
/-- The kids but the first. -/
theorem NBx.tail {ad : Addr} (b : NBx G w nb n A3 c3 (.some ad) c4) (h : 0 < n.kids.length) : Kd.F (Kd.int .i64) w G.okl (if c4 = 1 then .some ad else .some (ad.add 1)) n.kids.tail.length (ints n.kids.tail) := by
  have f := b.f4
  rw [← ints_length] at f
  have := Kd.F_cut (m := 1) (c := c4) f (by rw [ints_length]; omega) (by rw [ints_length]; exact b.l4)
  rw [ints_drop, ints_length] at this
  exact this
theorem litF (W : World) (j : Nat) : Kd.F (Kd.int .i64) (W.alloc (.cells #[.int .i64 j] 3)) (fun k => k = W.heap.size) (.some ⟨W.heap.size, 0, none⟩) [j].length (ints [j]) := by
  have ho := World.ownsRow_lit (base := W.heap.size) (e := 3) (size := 1) W #[.int .i64 j] 1 (Nat.le_refl _) (by decide) rfl
  have hR : Kd.R (Kd.int .i64) 3 (W.alloc (.cells #[.int .i64 j] 3)) W.heap.size (fun j => j = W.heap.size) (.slice (.some ⟨W.heap.size, 0, none⟩) 1 1) (ints [j]) := by
    refine ⟨fun j hj => by simpa [Value.ownBlock] using hj.symm, [.int .i64 j], ho, rfl, fun i p hp => ?_⟩
    rcases i with _ | i
    · simp only [ints, List.map_cons, List.map_nil, List.getElem?_cons_zero, Option.some.injEq] at hp
      subst hp
      rfl
    · simp [ints] at hp
  exact Kd.N_F (Kd.R_N hR)
/-- One jump leads here. -/
theorem here1_c {j : Nat} (h : MS G w F ids S) (hr : hereF [j] S = .some S') : Calls Try.prog 81 #[ptr G.a, .slice (.some ⟨w.heap.size, 0, none⟩) 1 1] (w.alloc (.cells #[.int .i64 j] 3)) fun e w' => e = .returned (.tuple #[]) ∧ MN G w F ids w' S' := by
  have hb := (Below.refl w.heap.size w).alloc (Nat.le_refl _) (.cells #[.int .i64 j] 3)
  refine (here_c (h.below hb) hr (litF w j) (fun k e => ?_)).mono fun e w' q => ⟨q.1, MN.pre hb q.2⟩
  subst e
  exact ⟨fun e => h.free (.inl e), fun e => h.free (.inr e), by simp⟩
end
end Go.Proofs.Ytibepkblgliooaa.Q
