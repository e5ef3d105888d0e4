/- The parser's nodes grow; the next token. -/
import Derived.Test.YticbjhicjegfoaaQc
import Derived.Test.YticbjhicjegfoaaQU
import Derived.Test.YticbjhicjegfoaaQt
import Derived.Test.YticbjhicjegfoaaQe
namespace Go.Proofs.Yticbjhicjegfoaa.Q
open Go.RowKit
open Go.Proofs.YticbjhicjegfoaaW.PrintWords

theorem infoNode : (Try.prog.info? 38).map (fun i => (i.zero, i.size, i.bytes)) = some (some (.agg #[.int .i64 0, .int .i64 0, .string ⟨#[]⟩, .slice none 0 0, .slice none 0 0, .int .i64 0]), 6, 88) := by kernel_rfl
theorem keepc {w w' : World} {p : Addr} {u : Value} (hb : Below w.heap.size w w') (h : w.cell? p = some u) : w'.cell? p = some u := pw_cell_below hb h
theorem keepg {w w' : World} {b o : Nat} {u : Value} {row : Option Nat} (hg : w.grownBy w' row) (hn : row ≠ some b) (h : w.cell? ⟨b, o, none⟩ = some u) : w'.cell? ⟨b, o, none⟩ = some u := by
  have hlt := World.block_lt_of_cell? w _ h
  have := hg.block b hlt (fun e => hn e.symm)
  simpa [World.cell?, this] using h
theorem cells6 (w : World) (x0 x1 x2 x3 x4 x5 : Value) (T : TypeId) : (w.alloc (.cells #[x0, x1, x2, x3, x4, x5] T)).cell? ⟨w.heap.size, 0, none⟩ = some x0 ∧ (w.alloc (.cells #[x0, x1, x2, x3, x4, x5] T)).cell? ⟨w.heap.size, 1, none⟩ = some x1 ∧ (w.alloc (.cells #[x0, x1, x2, x3, x4, x5] T)).cell? ⟨w.heap.size, 2, none⟩ = some x2 ∧ (w.alloc (.cells #[x0, x1, x2, x3, x4, x5] T)).cell? ⟨w.heap.size, 3, none⟩ = some x3 ∧ (w.alloc (.cells #[x0, x1, x2, x3, x4, x5] T)).cell? ⟨w.heap.size, 4, none⟩ = some x4 ∧ (w.alloc (.cells #[x0, x1, x2, x3, x4, x5] T)).cell? ⟨w.heap.size, 5, none⟩ = some x5 := by
  have h := heap_alloc_new w (.cells #[x0, x1, x2, x3, x4, x5] T)
  exact ⟨(cell_of_row _ _ 0 _ _ _ h).trans rfl, (cell_of_row _ _ 1 _ _ _ h).trans rfl, (cell_of_row _ _ 2 _ _ _ h).trans rfl, (cell_of_row _ _ 3 _ _ _ h).trans rfl, (cell_of_row _ _ 4 _ _ _ h).trans rfl, (cell_of_row _ _ 5 _ _ _ h).trans rfl⟩
section
variable {P : Program} {ops : Array Oper} {o : Oper} {a : Act} {Q : Exit → Act → World → Prop} {Kc : Act → World → Prop} {α : Type} {E : Prop}
/-- append in a region, whatever else is asked where it is not wanted. -/
theorem N_step_any (d : Kd α) {w0 W : World} (base : Nat) (hw : Region.wanted o (yielded ops a.tmps) = true) (s x : Operand) (t e : TypeId) (z : Value) (bytes : Nat)
    (ho : o.op = .call { callee := .builtin .append, args := #[s, x], argTypes := #[t, t] })
    (ht : P.underlying t = some (.slice e)) (hinfo : (P.info? e).map (fun i => (i.zero, i.size, i.bytes)) = some (some z, d.sz, bytes)) (hz : z.cells.size = d.sz) (hs0 : 0 < d.sz) (hb0 : 0 < bytes)
    (v : Value) (xs : List α) (p : α) (cs : List Value) (ok okp : Nat → Prop) (hs : a.eval s = v) (hx : a.eval x = .slice (some ⟨W.heap.size, 0, none⟩) 1 1) (hp : Kd.FK d W okp p cs) (hokp : ∀ k, okp k → ok k ∧ some k ≠ v.ownBlock) (hfresh : ∀ k, W.heap.size ≤ k → ok k)
    (HO : Kd.N d e W base ok v xs) (HB : Below base w0 W) (hbase : base ≤ W.heap.size) (hl : (xs.length + 1) * bytes ≤ 140737488355328)
    (h : ∀ v1 w1, Kd.N d e w1 base ok v1 (xs ++ [p]) → Below base w0 w1 → W.grownBy w1 v.ownBlock → (v1.ownBlock = v.ownBlock ∨ ∃ b, v1.ownBlock = some b ∧ W.heap.size ≤ b) → Kc (a.put o.dst v1) w1) :
    if Region.wanted o (yielded ops a.tmps) = true then Oper.wp P o a (W.alloc (.cells cs.toArray e)) Kc Q else E := by
  have h1 := Kd.N_append_step (P := P) (Q := Q) d base hw s x t e z bytes ho ht hinfo hz hs0 hb0 v xs p cs ok okp hs hx hp hokp hfresh HO HB hbase hl h
  rw [if_pos hw] at h1 ⊢
  exact h1
end
/-- What put comes to: the node's own rows are the parser's. -/
def NxP (w : World) (a : Nat) (ok okp : Nat → Prop) (w' : World) (S' : Ps) : Prop :=
  ∃ ok' v', PI w' a ok' v' S' ∧ Kp (fun k => k = a ∨ ok k) w w' ∧ ∀ k, ok' k → ok k ∨ okp k ∨ w.heap.size ≤ k
set_option maxHeartbeats 1600000 in
set_option maxRecDepth 100000 in
theorem put_c {w : World} {a k : Nat} {ok okp : Nat → Prop} {v : Value} {S S' : Ps} {n : Nd} {x0 x1 x2 x3 x4 x5 : Value} (h : PI w a ok v S) (hn : Kd.FK kNd w okp n [x0, x1, x2, x3, x4, x5]) (hd : ∀ k, okp k → ¬ ok k ∧ k ≠ a) (hs : S.put n = some (k, S')) :
    Calls Try.prog 30 #[ptr a, .agg #[x0, x1, x2, x3, x4, x5]] w fun e w' => e = .returned (.int .i64 k) ∧ NxP w a ok okp w' S' := by
  obtain ⟨hlen, hS', hk⟩ : S.l.length < 1048576 ∧ S' = { S with l := S.l ++ [n] } ∧ k = S.l.length := by
    unfold Ps.put at hs
    split at hs
    · rename_i h1
      injection hs with hs
      injection hs with h2 h3
      exact ⟨h1, h3.symm, h2.symm⟩
    · cases hs
  subst hS' hk
  have hbW : Below w.heap.size w (w.alloc (.cells #[x0, x1, x2, x3, x4, x5] 38)) := (Below.refl _ _).alloc (Nat.le_refl _) _
  obtain ⟨y0, y1, y2, y3, y4, y5⟩ := cells6 w x0 x1 x2 x3 x4 x5 38
  have hPW := h.below hbW
  have c7 := hPW.c7
  have hne : v.ownBlock ≠ some w.heap.size := fun e => by have := Kd.N_lt h.row _ e; omega
  have hna : v.ownBlock ≠ some a := fun e => h.off (h.row.1 a e)
  have HB := hid hbW
  have HA := hid hna
  have HY0 := hid hne
  have HP0 := hid hPW
  have HNP := hid hn
  have HD0 := hid hd
  have HL := hid hlen
  have hlt := h.lt
  have hsz : (w.alloc (.cells #[x0, x1, x2, x3, x4, x5] 38)).heap.size = w.heap.size + 1 := by simp
  have hoff := hid h.off
  have HROW := hid (fun k (e : v.ownBlock = some k) => h.row.1 k e)
  unfold ptr
  clear h hn hd hs hlen hbW hPW hne hna
  go_enter Try.func30, Try.ntmps30
  go_upto_region 1 with fail
  have HSZ := hid hsz
  obtain ⟨b, hb⟩ : ∃ b, b = w.heap.size := ⟨_, rfl⟩
  rw [← hb] at y0 y1 y2 y3 y4 y5 HY0 ⊢
  generalize (w.alloc (.cells #[x0, x1, x2, x3, x4, x5] 38)) = W at y0 y1 y2 y3 y4 y5 c7 HB HP0 HSZ ⊢
  have HEB := hid hb
  clear hb hsz
  obtain ⟨ok2, hok2⟩ : ∃ ok2 : Nat → Prop, ok2 = fun k => ok k ∨ okp k ∨ w.heap.size ≤ k := ⟨_, rfl⟩
  have HOK := hid hok2
  clear hok2
  have HP : Box (Kd.FK kNd W.drew okp n [x0, x1, x2, x3, x4, x5]) := hid (Kd.FK_step HNP.out (fun k _ hk => HB.out.block k hk))
  have HD : Box (∀ k, okp k → ok2 k ∧ some k ≠ v.ownBlock) := hid (fun k hk => ⟨by rw [HOK.out]; exact .inr (.inl hk), fun e => (HD0.out k hk).1 (HROW.out k e.symm)⟩)
  have HF : Box (∀ k, W.drew.heap.size ≤ k → ok2 k) := hid (fun k hk => by rw [HOK.out]; exact .inr (.inr (Nat.le_trans HB.out.size hk)))
  have HN : Box (Kd.N kNd 38 W.drew 0 ok2 v S.l) := hid (Kd.N_drew (Kd.N_mono HP0.out.row (fun k hk => by rw [HOK.out]; exact .inl hk)))
  have HY := HY0
  refine wp_region_until [10] (S := (fun w' => w'.cell? ⟨a, 7, none⟩ = some (v) ∧ w'.cell? ⟨b, 0, none⟩ = some (x0) ∧ w'.cell? ⟨b, 1, none⟩ = some (x1) ∧ w'.cell? ⟨b, 2, none⟩ = some (x2) ∧ w'.cell? ⟨b, 3, none⟩ = some (x3) ∧ w'.cell? ⟨b, 4, none⟩ = some (x4) ∧ w'.cell? ⟨b, 5, none⟩ = some (x5))) (by kernel_rfl) ?_ ?_
  · go_keep
  intro hS
  refine wpAnyU_take (i := 0) (v := (.pointer (some ⟨a, 0, none⟩))) rfl (by kernel_rfl) (fun _ _ _ h => h) (leads_of [[10]] (by kernel_rfl)) (by kernel_rfl) (by kernel_rfl) (by kernel_rfl) (Or.inl ⟨by rfl, ?_⟩) hS ?_
  · intro w' hS'
    obtain ⟨s0, s1, s2, s3, s4, s5, s6⟩ := hS'
    go_simp
  change wpAnyU _ _ _ _ _ _ _ _ (Act.put _ (some 5) _) _
  simp only [Act.put, List.setIfInBounds_toArray, List.set_cons_succ, List.set_cons_zero]
  refine wpAnyU_take (i := 1) (v := (.pointer (some ⟨a, 0, none⟩))) rfl (by kernel_rfl) (fun _ _ _ h => h) (leads_of [[10]] (by kernel_rfl)) (by kernel_rfl) (by kernel_rfl) (by kernel_rfl) (Or.inl ⟨by rfl, ?_⟩) hS ?_
  · intro w' hS'
    obtain ⟨s0, s1, s2, s3, s4, s5, s6⟩ := hS'
    go_simp
  change wpAnyU _ _ _ _ _ _ _ _ (Act.put _ (some 6) _) _
  simp only [Act.put, List.setIfInBounds_toArray, List.set_cons_succ, List.set_cons_zero]
  refine wpAnyU_take (i := 2) (v := (.pointer (some ⟨a, 0, none⟩))) rfl (by kernel_rfl) (fun _ _ _ h => h) (leads_of [[10]] (by kernel_rfl)) (by kernel_rfl) (by kernel_rfl) (by kernel_rfl) (Or.inl ⟨by rfl, ?_⟩) hS ?_
  · intro w' hS'
    obtain ⟨s0, s1, s2, s3, s4, s5, s6⟩ := hS'
    go_simp
  change wpAnyU _ _ _ _ _ _ _ _ (Act.put _ (some 7) _) _
  simp only [Act.put, List.setIfInBounds_toArray, List.set_cons_succ, List.set_cons_zero]
  refine wpAnyU_take (i := 3) (v := (.pointer (some ⟨a, 7, none⟩))) rfl (by kernel_rfl) (fun _ _ _ h => h) (leads_of [[10]] (by kernel_rfl)) (by kernel_rfl) (by kernel_rfl) (by kernel_rfl) (Or.inl ⟨by rfl, ?_⟩) hS ?_
  · intro w' hS'
    obtain ⟨s0, s1, s2, s3, s4, s5, s6⟩ := hS'
    go_simp
  change wpAnyU _ _ _ _ _ _ _ _ (Act.put _ (some 8) _) _
  simp only [Act.put, List.setIfInBounds_toArray, List.set_cons_succ, List.set_cons_zero]
  refine wpAnyU_take (i := 4) (v := (v)) rfl (by kernel_rfl) (fun _ _ _ h => h) (leads_of [[10]] (by kernel_rfl)) (by kernel_rfl) (by kernel_rfl) (by kernel_rfl) (Or.inl ⟨by rfl, ?_⟩) hS ?_
  · intro w' hS'
    obtain ⟨s0, s1, s2, s3, s4, s5, s6⟩ := hS'
    go_simp
  change wpAnyU _ _ _ _ _ _ _ _ (Act.put _ (some 9) _) _
  simp only [Act.put, List.setIfInBounds_toArray, List.set_cons_succ, List.set_cons_zero]
  refine wpAnyU_take (i := 5) (v := (.agg #[x0, x1, x2, x3, x4, x5])) rfl (by kernel_rfl) (fun _ _ _ h => h) (leads_of [[10]] (by kernel_rfl)) (by kernel_rfl) (by kernel_rfl) (by kernel_rfl) (Or.inl ⟨by rfl, ?_⟩) hS ?_
  · intro w' hS'
    obtain ⟨s0, s1, s2, s3, s4, s5, s6⟩ := hS'
    go_simp
  change wpAnyU _ _ _ _ _ _ _ _ (Act.put _ (some 10) _) _
  simp only [Act.put, List.setIfInBounds_toArray, List.set_cons_succ, List.set_cons_zero]
  refine wpAnyU_all (rs := [6]) (by kernel_rfl) (by simp) ?_
  intro j hj
  obtain rfl := List.mem_singleton.1 hj
  clear hj
  refine wpOp_shut rfl (fun K' HK => ?_)
  go_simp
  have HB6 := hid (below_alloc (Below.refl W.drew.heap.size W.drew) (.cells #[x0, x1, x2, x3, x4, x5] 38))
  refine HK.out _ _ ⟨.inr ?_, ?_⟩
  · exact ⟨keepc HB6.out c7, keepc HB6.out y0, keepc HB6.out y1, keepc HB6.out y2, keepc HB6.out y3, keepc HB6.out y4, keepc HB6.out y5⟩
  clear HK K'
  have hS := And.intro (keepc HB6.out c7) (And.intro (keepc HB6.out y0) (And.intro (keepc HB6.out y1) (And.intro (keepc HB6.out y2) (And.intro (keepc HB6.out y3) (And.intro (keepc HB6.out y4) (keepc HB6.out y5))))))
  try simp only [Act.put, List.setIfInBounds_toArray, List.set_cons_succ, List.set_cons_zero]
  refine wpAnyU_all (rs := [7]) (by kernel_rfl) (by simp) ?_
  intro j hj
  obtain rfl := List.mem_singleton.1 hj
  clear hj
  refine wpOp_shut rfl (fun K' HK => ?_)
  refine N_step_any kNd (w0 := W) (W := W.drew) 0 ?h0 (.tmp 9) (.tmp 11) 29 38 _ 88 ?h1 Try.underlying29 infoNode rfl (by decide) (by decide) v S.l n [x0, x1, x2, x3, x4, x5] ok2 okp ?c1 ?c2 ?c3 ?c4 ?c5 ?c6 ?c7 ?c8 ?c9 ?c10
  (case h0 => rfl)
  (case h1 => rfl)
  (case c1 => rfl)
  (case c2 => rfl)
  (case c3 => exact HP.out)
  (case c4 => exact HD.out)
  (case c5 => exact HF.out)
  (case c6 => exact HN.out)
  (case c7 => exact (Below.refl 0 W).drew)
  (case c8 => exact Nat.zero_le _)
  (case c9 => have := HL.out; omega)
  intro v1 w1 hN hB hg hat
  obtain ⟨A1, cap1, rfl⟩ := Kd.N_slice hN
  rw [List.length_append, List.length_singleton] at hN ⊢
  have HN1 := hid hN
  have hc1 : w1.heap[a]? = some (.cells (psRow S v) 64 (0, 0)) := (hg.block a (Nat.lt_of_lt_of_le hlt HB.out.size) (fun e => HA.out e.symm)).trans HP0.out.cell
  have f7 : w1.frozen? ⟨a, 7, none⟩ = false := by simp [World.frozen?, hc1]
  have HC1 := hid hc1
  clear hc1
  have HG1 := hid hg
  clear hN hB hg hat
  have z7 := keepg HG1.out HA.out c7
  have z10 := keepg HG1.out HY.out y0
  have z11 := keepg HG1.out HY.out y1
  have z12 := keepg HG1.out HY.out y2
  have z13 := keepg HG1.out HY.out y3
  have z14 := keepg HG1.out HY.out y4
  have z15 := keepg HG1.out HY.out y5
  refine HK.out _ _ ⟨.inr ?_, ?_⟩
  · exact ⟨z7, z10, z11, z12, z13, z14, z15⟩
  clear HK K'
  have hS := And.intro (z7) (And.intro (z10) (And.intro (z11) (And.intro (z12) (And.intro (z13) (And.intro (z14) (z15))))))
  change wpAnyU _ _ _ _ _ _ _ _ (Act.put _ (some 12) _) _
  simp only [Act.put, List.setIfInBounds_toArray, List.set_cons_succ, List.set_cons_zero]
  refine wpAnyU_take (i := 8) (v := (.pointer (some ⟨a, 0, none⟩))) rfl (by kernel_rfl) (fun _ _ _ h => h) (leads_of [[9, 10]] (by kernel_rfl)) (by kernel_rfl) (by kernel_rfl) (by kernel_rfl) (Or.inl ⟨by rfl, ?_⟩) hS ?_
  · intro w' hS'
    obtain ⟨s0, s1, s2, s3, s4, s5, s6⟩ := hS'
    go_simp
  change wpAnyU _ _ _ _ _ _ _ _ (Act.put _ (some 13) _) _
  simp only [Act.put, List.setIfInBounds_toArray, List.set_cons_succ, List.set_cons_zero]
  refine wpAnyU_take (i := 9) (v := (.pointer (some ⟨a, 7, none⟩))) rfl (by kernel_rfl) (fun _ _ _ h => h) (leads_of [[10]] (by kernel_rfl)) (by kernel_rfl) (by kernel_rfl) (by kernel_rfl) (Or.inl ⟨by rfl, ?_⟩) hS ?_
  · intro w' hS'
    obtain ⟨s0, s1, s2, s3, s4, s5, s6⟩ := hS'
    go_simp
  change wpAnyU _ _ _ _ _ _ _ _ (Act.put _ (some 14) _) _
  simp only [Act.put, List.setIfInBounds_toArray, List.set_cons_succ, List.set_cons_zero]
  refine wpAnyU_all (rs := [10]) (by kernel_rfl) (by simp) ?_
  intro j hj
  obtain rfl := List.mem_singleton.1 hj
  clear hj
  refine wpOp_shut rfl (fun K' HK => ?_)
  go_simp
  refine HK.out _ _ ⟨.inl (by decide), ?_⟩
  clear HK K'
  refine wpAnyU_done (by kernel_rfl) ?_ _
  have hfin : PI (w1.setCell ⟨a, 7, none⟩ (.slice A1 (S.l.length + 1) cap1)) a (fun k => ok2 k ∧ k < w1.heap.size) (.slice A1 (S.l.length + 1) cap1) { S with l := S.l ++ [n] } := by
    have hoff2 : ¬ ok2 a := by
      rw [HOK.out]
      rintro (h | h | h)
      · exact hoff.out h
      · exact (HD0.out a h).2 rfl
      · omega
    exact ⟨blk_put HC1.out 7 _ rfl, Kd.N_far (p := ⟨a, 7, none⟩) (Kd.N_bound HN1.out) (fun k hk (e : k = a) => hoff2 (e ▸ hk.1)) _, fun hk => hoff2 hk.1, HP0.out.fit, fun k hk => by simpa using hk.2⟩
  have hkp : Kp (fun k => k = a ∨ ok k) w (w1.setCell ⟨a, 7, none⟩ (.slice A1 (S.l.length + 1) cap1)) :=
    ((Kp.of_below HB.out.drew).trans (Kp.grown (K := fun k => k = a ∨ ok k) (w := W.drew) HG1.out (fun k e => .inr (HROW.out k e))) (fun _ h => .inl h)).trans (Kp.set (K := fun k => k = a ∨ ok k) _ (.inl rfl)) (fun _ h => .inl h)
  have c7' := hfin.c7
  have HFIN := hid hfin
  have HKP := hid hkp
  have hl1 := HL.out
  clear hfin hkp HN1 HG1 HP HD HF HN hS y0 y1 y2 y3 y4 y5 c7 f7 HC1
  go_wp2_with fail
  go_ret
  exact ⟨ret_nat (by omega), _, _, HFIN.out, HKP.out, fun k hk => by have := hk.1; rw [HOK.out] at this; exact this⟩
set_option maxHeartbeats 1600000 in
set_option maxRecDepth 100000 in
theorem move_c {w : World} {a : Nat} {ok : Nat → Prop} {v : Value} {S : Ps} (h : PI w a ok v S) : Calls Try.prog 89 #[ptr a] w fun e w' => e = .returned (.tuple #[]) ∧ Nx w a ok w' S.move := by
  have c0 := h.c0
  have c6 := h.c6
  have HP := hid h
  have HFIT := hid h.fit
  unfold ptr
  clear h
  go_enter Try.func89, Try.ntmps89
  go_upto_region 0 with fail
  refine wp_region_until [13] (S := (fun w' => w'.cell? ⟨a, 0, none⟩ = some (.string S.src) ∧ w'.cell? ⟨a, 6, none⟩ = some (.int .i64 (S.end_ : Nat)))) (by kernel_rfl) ?_ ?_
  · go_keep
  intro hS
  refine wpAnyU_take (i := 0) (v := (.pointer (some ⟨a, 0, none⟩))) rfl (by kernel_rfl) (fun _ _ _ h => h) (leads_of [[13]] (by kernel_rfl)) (by kernel_rfl) (by kernel_rfl) (by kernel_rfl) (Or.inl ⟨by rfl, ?_⟩) hS ?_
  · intro w' hS'
    obtain ⟨s0, s1⟩ := hS'
    go_simp
  change wpAnyU _ _ _ _ _ _ _ _ (Act.put _ (some 2) _) _
  simp only [Act.put, List.setIfInBounds_toArray, List.set_cons_succ, List.set_cons_zero]
  refine wpAnyU_take (i := 1) (v := (.pointer (some ⟨a, 0, none⟩))) rfl (by kernel_rfl) (fun _ _ _ h => h) (leads_of [[13]] (by kernel_rfl)) (by kernel_rfl) (by kernel_rfl) (by kernel_rfl) (Or.inl ⟨by rfl, ?_⟩) hS ?_
  · intro w' hS'
    obtain ⟨s0, s1⟩ := hS'
    go_simp
  change wpAnyU _ _ _ _ _ _ _ _ (Act.put _ (some 3) _) _
  simp only [Act.put, List.setIfInBounds_toArray, List.set_cons_succ, List.set_cons_zero]
  refine wpAnyU_take (i := 2) (v := (.pointer (some ⟨a, 0, none⟩))) rfl (by kernel_rfl) (fun _ _ _ h => h) (leads_of [[13]] (by kernel_rfl)) (by kernel_rfl) (by kernel_rfl) (by kernel_rfl) (Or.inl ⟨by rfl, ?_⟩) hS ?_
  · intro w' hS'
    obtain ⟨s0, s1⟩ := hS'
    go_simp
  change wpAnyU _ _ _ _ _ _ _ _ (Act.put _ (some 4) _) _
  simp only [Act.put, List.setIfInBounds_toArray, List.set_cons_succ, List.set_cons_zero]
  refine wpAnyU_take (i := 3) (v := (.pointer (some ⟨a, 0, none⟩))) rfl (by kernel_rfl) (fun _ _ _ h => h) (leads_of [[13]] (by kernel_rfl)) (by kernel_rfl) (by kernel_rfl) (by kernel_rfl) (Or.inl ⟨by rfl, ?_⟩) hS ?_
  · intro w' hS'
    obtain ⟨s0, s1⟩ := hS'
    go_simp
  change wpAnyU _ _ _ _ _ _ _ _ (Act.put _ (some 5) _) _
  simp only [Act.put, List.setIfInBounds_toArray, List.set_cons_succ, List.set_cons_zero]
  refine wpAnyU_take (i := 4) (v := (.string S.src)) rfl (by kernel_rfl) (fun _ _ _ h => h) (leads_of [[13]] (by kernel_rfl)) (by kernel_rfl) (by kernel_rfl) (by kernel_rfl) (Or.inl ⟨by rfl, ?_⟩) hS ?_
  · intro w' hS'
    obtain ⟨s0, s1⟩ := hS'
    go_simp
  change wpAnyU _ _ _ _ _ _ _ _ (Act.put _ (some 6) _) _
  simp only [Act.put, List.setIfInBounds_toArray, List.set_cons_succ, List.set_cons_zero]
  refine wpAnyU_take (i := 5) (v := (.pointer (some ⟨a, 0, none⟩))) rfl (by kernel_rfl) (fun _ _ _ h => h) (leads_of [[13]] (by kernel_rfl)) (by kernel_rfl) (by kernel_rfl) (by kernel_rfl) (Or.inl ⟨by rfl, ?_⟩) hS ?_
  · intro w' hS'
    obtain ⟨s0, s1⟩ := hS'
    go_simp
  change wpAnyU _ _ _ _ _ _ _ _ (Act.put _ (some 7) _) _
  simp only [Act.put, List.setIfInBounds_toArray, List.set_cons_succ, List.set_cons_zero]
  refine wpAnyU_take (i := 6) (v := (.pointer (some ⟨a, 0, none⟩))) rfl (by kernel_rfl) (fun _ _ _ h => h) (leads_of [[13]] (by kernel_rfl)) (by kernel_rfl) (by kernel_rfl) (by kernel_rfl) (Or.inl ⟨by rfl, ?_⟩) hS ?_
  · intro w' hS'
    obtain ⟨s0, s1⟩ := hS'
    go_simp
  change wpAnyU _ _ _ _ _ _ _ _ (Act.put _ (some 8) _) _
  simp only [Act.put, List.setIfInBounds_toArray, List.set_cons_succ, List.set_cons_zero]
  refine wpAnyU_take (i := 7) (v := (.pointer (some ⟨a, 1, none⟩))) rfl (by kernel_rfl) (fun _ _ _ h => h) (leads_of [[13]] (by kernel_rfl)) (by kernel_rfl) (by kernel_rfl) (by kernel_rfl) (Or.inl ⟨by rfl, ?_⟩) hS ?_
  · intro w' hS'
    obtain ⟨s0, s1⟩ := hS'
    go_simp
  change wpAnyU _ _ _ _ _ _ _ _ (Act.put _ (some 9) _) _
  simp only [Act.put, List.setIfInBounds_toArray, List.set_cons_succ, List.set_cons_zero]
  refine wpAnyU_take (i := 8) (v := (.pointer (some ⟨a, 6, none⟩))) rfl (by kernel_rfl) (fun _ _ _ h => h) (leads_of [[13]] (by kernel_rfl)) (by kernel_rfl) (by kernel_rfl) (by kernel_rfl) (Or.inl ⟨by rfl, ?_⟩) hS ?_
  · intro w' hS'
    obtain ⟨s0, s1⟩ := hS'
    go_simp
  change wpAnyU _ _ _ _ _ _ _ _ (Act.put _ (some 10) _) _
  simp only [Act.put, List.setIfInBounds_toArray, List.set_cons_succ, List.set_cons_zero]
  refine wpAnyU_take (i := 9) (v := (.int .i64 (S.end_ : Nat))) rfl (by kernel_rfl) (fun _ _ _ h => h) (leads_of [[13]] (by kernel_rfl)) (by kernel_rfl) (by kernel_rfl) (by kernel_rfl) (Or.inl ⟨by rfl, ?_⟩) hS ?_
  · intro w' hS'
    obtain ⟨s0, s1⟩ := hS'
    go_simp
  change wpAnyU _ _ _ _ _ _ _ _ (Act.put _ (some 11) _) _
  simp only [Act.put, List.setIfInBounds_toArray, List.set_cons_succ, List.set_cons_zero]
  refine wpAnyU_all (rs := [10]) (by kernel_rfl) (by simp) ?_
  intro j hj
  obtain rfl := List.mem_singleton.1 hj
  clear hj
  refine wpOp_shut rfl (fun K' HK => ?_)
  refine step_call rfl (f := 28) rfl Try.func28 (by kernel_rfl) rfl #[.string S.src, .int .i64 (S.end_ : Nat)] (by simp only [List.map_toArray, List.map_cons, List.map_nil]; rfl) ?_
  refine (tok_c S.src S.end_ HFIT.out.1 HFIT.out.2).mono ?_
  rintro e w1 ⟨rfl, hb1⟩
  refine ⟨_, rfl, ?_⟩
  have HP1 := hid ((HP.out.below (Below.refl w.heap.size w).drew).below hb1)
  have HB1 := hid ((Below.refl w.heap.size w).drew.trans hb1)
  clear hb1
  have z0 := HP1.out.c0
  have z6 := HP1.out.c6
  have f1 := HP1.out.f 1
  have f2 := HP1.out.f 2
  have f3 := HP1.out.f 3
  have f4 := HP1.out.f 4
  have f5 := HP1.out.f 5
  have f6 := HP1.out.f 6
  have d1 := HP1.out.c1
  have d2 := HP1.out.c2
  have d3 := HP1.out.c3
  have d4 := HP1.out.c4
  have d5 := HP1.out.c5
  refine HK.out _ _ ⟨.inr ?_, ?_⟩
  · exact ⟨z0, z6⟩
  clear HK K'
  have hS := And.intro (z0) (z6)
  change wpAnyU _ _ _ _ _ _ _ _ (Act.put _ (some 12) _) _
  simp only [Act.put, List.setIfInBounds_toArray, List.set_cons_succ, List.set_cons_zero]
  refine wpAnyU_take (i := 11) (v := (.pointer (some ⟨a, 0, none⟩))) rfl (by kernel_rfl) (fun _ _ _ h => h) (leads_of [[12, 13]] (by kernel_rfl)) (by kernel_rfl) (by kernel_rfl) (by kernel_rfl) (Or.inl ⟨by rfl, ?_⟩) hS ?_
  · intro w' hS'
    obtain ⟨s0, s1⟩ := hS'
    go_simp
  change wpAnyU _ _ _ _ _ _ _ _ (Act.put _ (some 13) _) _
  simp only [Act.put, List.setIfInBounds_toArray, List.set_cons_succ, List.set_cons_zero]
  refine wpAnyU_take (i := 12) (v := (.pointer (some ⟨a, 1, none⟩))) rfl (by kernel_rfl) (fun _ _ _ h => h) (leads_of [[13]] (by kernel_rfl)) (by kernel_rfl) (by kernel_rfl) (by kernel_rfl) (Or.inl ⟨by rfl, ?_⟩) hS ?_
  · intro w' hS'
    obtain ⟨s0, s1⟩ := hS'
    go_simp
  change wpAnyU _ _ _ _ _ _ _ _ (Act.put _ (some 14) _) _
  simp only [Act.put, List.setIfInBounds_toArray, List.set_cons_succ, List.set_cons_zero]
  refine wpAnyU_all (rs := [13]) (by kernel_rfl) (by simp) ?_
  intro j hj
  obtain rfl := List.mem_singleton.1 hj
  clear hj
  refine wpOp_shut rfl (fun K' HK => ?_)
  go_simp
  refine HK.out _ _ ⟨.inl (by decide), ?_⟩
  clear HK K'
  refine wpAnyU_done (by kernel_rfl) ?_ _
  obtain ⟨T, eT⟩ : ∃ T : Tk, T = (tok S.src S.end_).1 := ⟨_, rfl⟩
  obtain ⟨E, eE⟩ : ∃ E : Nat, E = (tok S.src S.end_).2 := ⟨_, rfl⟩
  have hE : E ≤ S.src.size := by rw [eE]; exact (tok_fits S.src S.end_ HFIT.out.2).2.2.1
  have hmv : S.move = { S with t := T, end_ := E } := by rw [eT, eE]; rfl
  rw [hmv, ← eT, ← eE]
  have h1 : PI (w1.setCell ⟨a, 1, none⟩ (.int .i64 T.kind)) a ok v { S with t := { S.t with kind := T.kind } } := HP1.out.set 1 _ rfl rfl
  have h2 : PI _ a ok v { S with t := { S.t with kind := T.kind, text := T.text } } := h1.set 2 (.string T.text) rfl rfl
  have h3 : PI _ a ok v { S with t := { S.t with kind := T.kind, text := T.text, num := T.num } } := h2.set 3 (.int .i64 T.num) rfl rfl
  have h4 : PI _ a ok v { S with t := { S.t with kind := T.kind, text := T.text, num := T.num, at_ := T.at_ } } := h3.set 4 (.int .i64 T.at_) rfl rfl
  have h5 : PI _ a ok v { S with t := T } := h4.set 5 (.bool T.line) rfl rfl
  have h6 : PI _ a ok v { S with t := T, end_ := E } := h5.setE 6 (.int .i64 E) rfl rfl ⟨HFIT.out.1, hE⟩
  have k0 : Kp (fun k => k = a ∨ ok k) w w1 := Kp.of_below HB1.out
  have ks := fun (w' : World) (i : Nat) (u : Value) (k : Kp (fun k => k = a ∨ ok k) w w') => k.trans (Kp.set (p := ⟨a, i, none⟩) (K := fun k => k = a ∨ ok k) u (.inl rfl)) (fun _ h => .inl h)
  exact bodyPost_end (results_none rfl _ _ _) rfl ⟨rfl, h6.nx (ks _ _ _ (ks _ _ _ (ks _ _ _ (ks _ _ _ (ks _ _ _ (ks _ _ _ k0))))))⟩
end Go.Proofs.Yticbjhicjegfoaa.Q
