/- What a proof further on needs (part f). -/
import Derived.Deep.LoopGhost
import Derived.Test.YtibepkblgliooaaKc
import Derived.Test.YtibepkblgliooaaKd
import Derived.Test.YtibepkblgliooaaKe
set_option linter.unusedVariables false
namespace Go.Proofs.Ytibepkblgliooaa.Q
open Go.RowKit
open Go.Proofs.YtibepkblgliooaaW.PrintWords
theorem infoNode : (Try.prog.info? 37).map (fun i => (i.zero, i.size, i.bytes)) = some (some (.agg #[.int .i64 0, .int .i64 0, .string ⟨#[]⟩, .slice none 0 0, .slice none 0 0, .int .i64 0]), 6, 88) := by kernel_rfl
theorem keepc {w w' : World} {p : Addr} {u : Value} (hb : Below w.heap.size w w') (h : w.cell? p = some u) : w'.cell? p = some u := pw_cell_below hb h
theorem keepg {w w' : World} {b o : Nat} {u : Value} {row : Option Nat} (hg : w.grownBy w' row) (hn : row ≠ some b) (h : w.cell? ⟨b, o, none⟩ = some u) : w'.cell? ⟨b, o, none⟩ = some u := by
  have hlt := World.block_lt_of_cell? w _ h
  have := hg.block b hlt (fun e => hn e.symm)
  simpa [World.cell?, this] using h
theorem cells6 (w : World) (x0 x1 x2 x3 x4 x5 : Value) (T : TypeId) : (w.alloc (.cells #[x0, x1, x2, x3, x4, x5] T)).cell? ⟨w.heap.size, 0, none⟩ = some x0 ∧ (w.alloc (.cells #[x0, x1, x2, x3, x4, x5] T)).cell? ⟨w.heap.size, 1, none⟩ = some x1 ∧ (w.alloc (.cells #[x0, x1, x2, x3, x4, x5] T)).cell? ⟨w.heap.size, 2, none⟩ = some x2 ∧ (w.alloc (.cells #[x0, x1, x2, x3, x4, x5] T)).cell? ⟨w.heap.size, 3, none⟩ = some x3 ∧ (w.alloc (.cells #[x0, x1, x2, x3, x4, x5] T)).cell? ⟨w.heap.size, 4, none⟩ = some x4 ∧ (w.alloc (.cells #[x0, x1, x2, x3, x4, x5] T)).cell? ⟨w.heap.size, 5, none⟩ = some x5 := by
  have h := heap_alloc_new w (.cells #[x0, x1, x2, x3, x4, x5] T)
  exact ⟨(cell_of_row _ _ 0 _ _ _ h).trans rfl, (cell_of_row _ _ 1 _ _ _ h).trans rfl, (cell_of_row _ _ 2 _ _ _ h).trans rfl, (cell_of_row _ _ 3 _ _ _ h).trans rfl, (cell_of_row _ _ 4 _ _ _ h).trans rfl, (cell_of_row _ _ 5 _ _ _ h).trans rfl⟩
section
variable {P : Program} {ops : Array Oper} {o : Oper} {a : Act} {Q : Exit → Act → World → Prop} {Kc : Act → World → Prop} {α : Type} {E : Prop}
/-- append in a region, whatever else is asked where it is not wanted. -/
theorem N_step_any (d : Kd α) {w0 W : World} (base : Nat) (hw : Region.wanted o (yielded ops a.tmps) = true) (s x : Operand) (t e : TypeId) (z : Value) (bytes : Nat)
    (ho : o.op = .call { callee := .builtin .append, args := #[s, x], argTypes := #[t, t] })
    (ht : P.underlying t = some (.slice e)) (hinfo : (P.info? e).map (fun i => (i.zero, i.size, i.bytes)) = some (some z, d.sz, bytes)) (hz : z.cells.size = d.sz) (hs0 : 0 < d.sz) (hb0 : 0 < bytes)
    (v : Value) (xs : List α) (p : α) (cs : List Value) (ok okp : Nat → Prop) (hs : a.eval s = v) (hx : a.eval x = .slice (some ⟨W.heap.size, 0, none⟩) 1 1) (hp : Kd.FK d W okp p cs) (hokp : ∀ k, okp k → ok k ∧ some k ≠ v.ownBlock) (hfresh : ∀ k, W.heap.size ≤ k → ok k)
    (HO : Kd.N d e W base ok v xs) (HB : Below base w0 W) (hbase : base ≤ W.heap.size) (hl : (xs.length + 1) * bytes ≤ 140737488355328)
    (h : ∀ v1 w1, Kd.N d e w1 base ok v1 (xs ++ [p]) → Below base w0 w1 → W.grownBy w1 v.ownBlock → (v1.ownBlock = v.ownBlock ∨ ∃ b, v1.ownBlock = some b ∧ W.heap.size ≤ b) → Kc (a.put o.dst v1) w1) :
    if Region.wanted o (yielded ops a.tmps) = true then Oper.wp P o a (W.alloc (.cells cs.toArray e)) Kc Q else E := by
  have h1 := Kd.N_append_step (P := P) (Q := Q) d base hw s x t e z bytes ho ht hinfo hz hs0 hb0 v xs p cs ok okp hs hx hp hokp hfresh HO HB hbase hl h
  rw [if_pos hw] at h1 ⊢
  exact h1
end
/-- What put comes to: the node's own rows are the parser's. -/
def NxP (w : World) (a : Nat) (ok okp : Nat → Prop) (w' : World) (S' : Ps) : Prop :=
  ∃ ok' v', PI w' a ok' v' S' ∧ Kp (fun k => k = a ∨ ok k) w w' ∧ ∀ k, ok' k → ok k ∨ okp k ∨ w.heap.size ≤ k
set_option maxHeartbeats 1600000 in
set_option maxRecDepth 100000 in
theorem put_c {w : World} {a k : Nat} {ok okp : Nat → Prop} {v : Value} {S S' : Ps} {n : Nd} {x0 x1 x2 x3 x4 x5 : Value} (h : PI w a ok v S) (hn : Kd.FK kNd w okp n [x0, x1, x2, x3, x4, x5]) (hd : ∀ k, okp k → ¬ ok k ∧ k ≠ a) (hs : S.put n = some (k, S')) :
    Calls Try.prog 16 #[ptr a, .agg #[x0, x1, x2, x3, x4, x5]] w fun e w' => e = .returned (.int .i64 k) ∧ NxP w a ok okp w' S' := by
  obtain ⟨hlen, hS', hk⟩ : S.l.length < 1048576 ∧ S' = { S with l := S.l ++ [n] } ∧ k = S.l.length := by
    unfold Ps.put at hs
    split at hs
    · rename_i h1
      injection hs with hs
      injection hs with h2 h3
      exact ⟨h1, h3.symm, h2.symm⟩
    · cases hs
  subst hS' hk
  have hbW : Below w.heap.size w (w.alloc (.cells #[x0, x1, x2, x3, x4, x5] 37)) := (Below.refl _ _).alloc (Nat.le_refl _) _
  obtain ⟨y0, y1, y2, y3, y4, y5⟩ := cells6 w x0 x1 x2 x3 x4 x5 37
  have hPW := h.below hbW
  have c7 := hPW.c7
  have hne : v.ownBlock ≠ some w.heap.size := fun e => by have := Kd.N_lt h.row _ e; omega
  have hna : v.ownBlock ≠ some a := fun e => h.off (h.row.1 a e)
  have HB := hid hbW
  have HA := hid hna
  have HY0 := hid hne
  have HP0 := hid hPW
  have HNP := hid hn
  have HD0 := hid hd
  have HL := hid hlen
  have hlt := h.lt
  have hsz : (w.alloc (.cells #[x0, x1, x2, x3, x4, x5] 37)).heap.size = w.heap.size + 1 := by simp
  have hoff := hid h.off
  have HROW := hid (fun k (e : v.ownBlock = some k) => h.row.1 k e)
  unfold ptr
  clear h hn hd hs hlen hbW hPW hne hna
  go_enter Try.func16, Try.ntmps16
  go_upto_region 1 with fail
  have HSZ := hid hsz
  obtain ⟨b, hb⟩ : ∃ b, b = w.heap.size := ⟨_, rfl⟩
  rw [← hb] at y0 y1 y2 y3 y4 y5 HY0 ⊢
  generalize (w.alloc (.cells #[x0, x1, x2, x3, x4, x5] 37)) = W at y0 y1 y2 y3 y4 y5 c7 HB HP0 HSZ ⊢
  have HEB := hid hb
  clear hb hsz
  obtain ⟨ok2, hok2⟩ : ∃ ok2 : Nat → Prop, ok2 = fun k => ok k ∨ okp k ∨ w.heap.size ≤ k := ⟨_, rfl⟩
  have HOK := hid hok2
  clear hok2
  have HP : Box (Kd.FK kNd W.drew okp n [x0, x1, x2, x3, x4, x5]) := hid (Kd.FK_step HNP.out (fun k _ hk => HB.out.block k hk))
  have HD : Box (∀ k, okp k → ok2 k ∧ some k ≠ v.ownBlock) := hid (fun k hk => ⟨by rw [HOK.out]; exact .inr (.inl hk), fun e => (HD0.out k hk).1 (HROW.out k e.symm)⟩)
  have HF : Box (∀ k, W.drew.heap.size ≤ k → ok2 k) := hid (fun k hk => by rw [HOK.out]; exact .inr (.inr (Nat.le_trans HB.out.size hk)))
  have HN : Box (Kd.N kNd 37 W.drew 0 ok2 v S.l) := hid (Kd.N_drew (Kd.N_mono HP0.out.row (fun k hk => by rw [HOK.out]; exact .inl hk)))
  have HY := HY0
  refine wp_region_until [10] (S := (fun w' => w'.cell? ⟨a, 7, none⟩ = some (v) ∧ w'.cell? ⟨b, 0, none⟩ = some (x0) ∧ w'.cell? ⟨b, 1, none⟩ = some (x1) ∧ w'.cell? ⟨b, 2, none⟩ = some (x2) ∧ w'.cell? ⟨b, 3, none⟩ = some (x3) ∧ w'.cell? ⟨b, 4, none⟩ = some (x4) ∧ w'.cell? ⟨b, 5, none⟩ = some (x5))) (by kernel_rfl) ?_ ?_
  · go_keep
  intro hS
  refine wpAnyU_take (i := 0) (v := (.pointer (some ⟨a, 0, none⟩))) rfl (by kernel_rfl) (fun _ _ _ h => h) (leads_of [[10]] (by kernel_rfl)) (by kernel_rfl) (by kernel_rfl) (by kernel_rfl) (Or.inl ⟨by rfl, ?_⟩) hS ?_
  · intro w' hS'
    obtain ⟨s0, s1, s2, s3, s4, s5, s6⟩ := hS'
    go_simp
  change wpAnyU _ _ _ _ _ _ _ _ (Act.put _ (some 5) _) _
  simp only [Act.put, List.setIfInBounds_toArray, List.set_cons_succ, List.set_cons_zero]
  refine wpAnyU_take (i := 1) (v := (.pointer (some ⟨a, 0, none⟩))) rfl (by kernel_rfl) (fun _ _ _ h => h) (leads_of [[10]] (by kernel_rfl)) (by kernel_rfl) (by kernel_rfl) (by kernel_rfl) (Or.inl ⟨by rfl, ?_⟩) hS ?_
  · intro w' hS'
    obtain ⟨s0, s1, s2, s3, s4, s5, s6⟩ := hS'
    go_simp
  change wpAnyU _ _ _ _ _ _ _ _ (Act.put _ (some 6) _) _
  simp only [Act.put, List.setIfInBounds_toArray, List.set_cons_succ, List.set_cons_zero]
  refine wpAnyU_take (i := 2) (v := (.pointer (some ⟨a, 0, none⟩))) rfl (by kernel_rfl) (fun _ _ _ h => h) (leads_of [[10]] (by kernel_rfl)) (by kernel_rfl) (by kernel_rfl) (by kernel_rfl) (Or.inl ⟨by rfl, ?_⟩) hS ?_
  · intro w' hS'
    obtain ⟨s0, s1, s2, s3, s4, s5, s6⟩ := hS'
    go_simp
  change wpAnyU _ _ _ _ _ _ _ _ (Act.put _ (some 7) _) _
  simp only [Act.put, List.setIfInBounds_toArray, List.set_cons_succ, List.set_cons_zero]
  refine wpAnyU_take (i := 3) (v := (.pointer (some ⟨a, 7, none⟩))) rfl (by kernel_rfl) (fun _ _ _ h => h) (leads_of [[10]] (by kernel_rfl)) (by kernel_rfl) (by kernel_rfl) (by kernel_rfl) (Or.inl ⟨by rfl, ?_⟩) hS ?_
  · intro w' hS'
    obtain ⟨s0, s1, s2, s3, s4, s5, s6⟩ := hS'
    go_simp
  change wpAnyU _ _ _ _ _ _ _ _ (Act.put _ (some 8) _) _
  simp only [Act.put, List.setIfInBounds_toArray, List.set_cons_succ, List.set_cons_zero]
  refine wpAnyU_take (i := 4) (v := (v)) rfl (by kernel_rfl) (fun _ _ _ h => h) (leads_of [[10]] (by kernel_rfl)) (by kernel_rfl) (by kernel_rfl) (by kernel_rfl) (Or.inl ⟨by rfl, ?_⟩) hS ?_
  · intro w' hS'
    obtain ⟨s0, s1, s2, s3, s4, s5, s6⟩ := hS'
    go_simp
  change wpAnyU _ _ _ _ _ _ _ _ (Act.put _ (some 9) _) _
  simp only [Act.put, List.setIfInBounds_toArray, List.set_cons_succ, List.set_cons_zero]
  refine wpAnyU_take (i := 5) (v := (.agg #[x0, x1, x2, x3, x4, x5])) rfl (by kernel_rfl) (fun _ _ _ h => h) (leads_of [[10]] (by kernel_rfl)) (by kernel_rfl) (by kernel_rfl) (by kernel_rfl) (Or.inl ⟨by rfl, ?_⟩) hS ?_
  · intro w' hS'
    obtain ⟨s0, s1, s2, s3, s4, s5, s6⟩ := hS'
    go_simp
  change wpAnyU _ _ _ _ _ _ _ _ (Act.put _ (some 10) _) _
  simp only [Act.put, List.setIfInBounds_toArray, List.set_cons_succ, List.set_cons_zero]
  refine wpAnyU_all (rs := [6]) (by kernel_rfl) (by simp) ?_
  intro j hj
  obtain rfl := List.mem_singleton.1 hj
  clear hj
  refine wpOp_shut rfl (fun K' HK => ?_)
  go_simp
  have HB6 := hid (below_alloc (Below.refl W.drew.heap.size W.drew) (.cells #[x0, x1, x2, x3, x4, x5] 37))
  refine HK.out _ _ ⟨.inr ?_, ?_⟩
  · exact ⟨keepc HB6.out c7, keepc HB6.out y0, keepc HB6.out y1, keepc HB6.out y2, keepc HB6.out y3, keepc HB6.out y4, keepc HB6.out y5⟩
  clear HK K'
  have hS := And.intro (keepc HB6.out c7) (And.intro (keepc HB6.out y0) (And.intro (keepc HB6.out y1) (And.intro (keepc HB6.out y2) (And.intro (keepc HB6.out y3) (And.intro (keepc HB6.out y4) (keepc HB6.out y5))))))
  try simp only [Act.put, List.setIfInBounds_toArray, List.set_cons_succ, List.set_cons_zero]
  refine wpAnyU_all (rs := [7]) (by kernel_rfl) (by simp) ?_
  intro j hj
  obtain rfl := List.mem_singleton.1 hj
  clear hj
  refine wpOp_shut rfl (fun K' HK => ?_)
  refine N_step_any kNd (w0 := W) (W := W.drew) 0 ?h0 (.tmp 9) (.tmp 11) 24 37 _ 88 ?h1 Try.underlying24 infoNode rfl (by decide) (by decide) v S.l n [x0, x1, x2, x3, x4, x5] ok2 okp ?c1 ?c2 ?c3 ?c4 ?c5 ?c6 ?c7 ?c8 ?c9 ?c10
  (case h0 => rfl)
  (case h1 => rfl)
  (case c1 => rfl)
  (case c2 => rfl)
  (case c3 => exact HP.out)
  (case c4 => exact HD.out)
  (case c5 => exact HF.out)
  (case c6 => exact HN.out)
  (case c7 => exact (Below.refl 0 W).drew)
  (case c8 => exact Nat.zero_le _)
  (case c9 => have := HL.out; omega)
  intro v1 w1 hN hB hg hat
  obtain ⟨A1, cap1, rfl⟩ := Kd.N_slice hN
  rw [List.length_append, List.length_singleton] at hN ⊢
  have HN1 := hid hN
  have hc1 : w1.heap[a]? = some (.cells (psRow S v) 60 (0, 0)) := (hg.block a (Nat.lt_of_lt_of_le hlt HB.out.size) (fun e => HA.out e.symm)).trans HP0.out.cell
  have f7 : w1.frozen? ⟨a, 7, none⟩ = false := by simp [World.frozen?, hc1]
  have HC1 := hid hc1
  clear hc1
  have HG1 := hid hg
  clear hN hB hg hat
  have z7 := keepg HG1.out HA.out c7
  have z10 := keepg HG1.out HY.out y0
  have z11 := keepg HG1.out HY.out y1
  have z12 := keepg HG1.out HY.out y2
  have z13 := keepg HG1.out HY.out y3
  have z14 := keepg HG1.out HY.out y4
  have z15 := keepg HG1.out HY.out y5
  refine HK.out _ _ ⟨.inr ?_, ?_⟩
  · exact ⟨z7, z10, z11, z12, z13, z14, z15⟩
  clear HK K'
  have hS := And.intro (z7) (And.intro (z10) (And.intro (z11) (And.intro (z12) (And.intro (z13) (And.intro (z14) (z15))))))
  change wpAnyU _ _ _ _ _ _ _ _ (Act.put _ (some 12) _) _
  simp only [Act.put, List.setIfInBounds_toArray, List.set_cons_succ, List.set_cons_zero]
  refine wpAnyU_take (i := 8) (v := (.pointer (some ⟨a, 0, none⟩))) rfl (by kernel_rfl) (fun _ _ _ h => h) (leads_of [[9, 10]] (by kernel_rfl)) (by kernel_rfl) (by kernel_rfl) (by kernel_rfl) (Or.inl ⟨by rfl, ?_⟩) hS ?_
  · intro w' hS'
    obtain ⟨s0, s1, s2, s3, s4, s5, s6⟩ := hS'
    go_simp
  change wpAnyU _ _ _ _ _ _ _ _ (Act.put _ (some 13) _) _
  simp only [Act.put, List.setIfInBounds_toArray, List.set_cons_succ, List.set_cons_zero]
  refine wpAnyU_take (i := 9) (v := (.pointer (some ⟨a, 7, none⟩))) rfl (by kernel_rfl) (fun _ _ _ h => h) (leads_of [[10]] (by kernel_rfl)) (by kernel_rfl) (by kernel_rfl) (by kernel_rfl) (Or.inl ⟨by rfl, ?_⟩) hS ?_
  · intro w' hS'
    obtain ⟨s0, s1, s2, s3, s4, s5, s6⟩ := hS'
    go_simp
  change wpAnyU _ _ _ _ _ _ _ _ (Act.put _ (some 14) _) _
  simp only [Act.put, List.setIfInBounds_toArray, List.set_cons_succ, List.set_cons_zero]
  refine wpAnyU_all (rs := [10]) (by kernel_rfl) (by simp) ?_
  intro j hj
  obtain rfl := List.mem_singleton.1 hj
  clear hj
  refine wpOp_shut rfl (fun K' HK => ?_)
  go_simp
  refine HK.out _ _ ⟨.inl (by decide), ?_⟩
  clear HK K'
  refine wpAnyU_done (by kernel_rfl) ?_ _
  have hfin : PI (w1.setCell ⟨a, 7, none⟩ (.slice A1 (S.l.length + 1) cap1)) a (fun k => ok2 k ∧ k < w1.heap.size) (.slice A1 (S.l.length + 1) cap1) { S with l := S.l ++ [n] } := by
    have hoff2 : ¬ ok2 a := by
      rw [HOK.out]
      rintro (h | h | h)
      · exact hoff.out h
      · exact (HD0.out a h).2 rfl
      · omega
    exact ⟨blk_put HC1.out 7 _ rfl, Kd.N_far (p := ⟨a, 7, none⟩) (Kd.N_bound HN1.out) (fun k hk (e : k = a) => hoff2 (e ▸ hk.1)) _, fun hk => hoff2 hk.1, HP0.out.fit, fun k hk => by simpa using hk.2⟩
  have hkp : Kp (fun k => k = a ∨ ok k) w (w1.setCell ⟨a, 7, none⟩ (.slice A1 (S.l.length + 1) cap1)) :=
    ((Kp.of_below HB.out.drew).trans (Kp.grown (K := fun k => k = a ∨ ok k) (w := W.drew) HG1.out (fun k e => .inr (HROW.out k e))) (fun _ h => .inl h)).trans (Kp.set (K := fun k => k = a ∨ ok k) _ (.inl rfl)) (fun _ h => .inl h)
  have c7' := hfin.c7
  have HFIN := hid hfin
  have HKP := hid hkp
  have hl1 := HL.out
  clear hfin hkp HN1 HG1 HP HD HF HN hS y0 y1 y2 y3 y4 y5 c7 f7 HC1
  go_wp2_with fail
  go_ret
  exact ⟨ret_nat (by omega), _, _, HFIN.out, HKP.out, fun k hk => by have := hk.1; rw [HOK.out] at this; exact this⟩
set_option maxHeartbeats 1600000 in
set_option maxRecDepth 100000 in
theorem move_c {w : World} {a : Nat} {ok : Nat → Prop} {v : Value} {S : Ps} (h : PI w a ok v S) : Calls Try.prog 71 #[ptr a] w fun e w' => e = .returned (.tuple #[]) ∧ Nx w a ok w' S.move := by
  have c0 := h.c0
  have c6 := h.c6
  have HP := hid h
  have HFIT := hid h.fit
  unfold ptr
  clear h
  go_enter Try.func71, Try.ntmps71
  go_upto_region 0 with fail
  refine wp_region_until [13] (S := (fun w' => w'.cell? ⟨a, 0, none⟩ = some (.string S.src) ∧ w'.cell? ⟨a, 6, none⟩ = some (.int .i64 (S.end_ : Nat)))) (by kernel_rfl) ?_ ?_
  · go_keep
  intro hS
  refine wpAnyU_take (i := 0) (v := (.pointer (some ⟨a, 0, none⟩))) rfl (by kernel_rfl) (fun _ _ _ h => h) (leads_of [[13]] (by kernel_rfl)) (by kernel_rfl) (by kernel_rfl) (by kernel_rfl) (Or.inl ⟨by rfl, ?_⟩) hS ?_
  · intro w' hS'
    obtain ⟨s0, s1⟩ := hS'
    go_simp
  change wpAnyU _ _ _ _ _ _ _ _ (Act.put _ (some 2) _) _
  simp only [Act.put, List.setIfInBounds_toArray, List.set_cons_succ, List.set_cons_zero]
  refine wpAnyU_take (i := 1) (v := (.pointer (some ⟨a, 0, none⟩))) rfl (by kernel_rfl) (fun _ _ _ h => h) (leads_of [[13]] (by kernel_rfl)) (by kernel_rfl) (by kernel_rfl) (by kernel_rfl) (Or.inl ⟨by rfl, ?_⟩) hS ?_
  · intro w' hS'
    obtain ⟨s0, s1⟩ := hS'
    go_simp
  change wpAnyU _ _ _ _ _ _ _ _ (Act.put _ (some 3) _) _
  simp only [Act.put, List.setIfInBounds_toArray, List.set_cons_succ, List.set_cons_zero]
  refine wpAnyU_take (i := 2) (v := (.pointer (some ⟨a, 0, none⟩))) rfl (by kernel_rfl) (fun _ _ _ h => h) (leads_of [[13]] (by kernel_rfl)) (by kernel_rfl) (by kernel_rfl) (by kernel_rfl) (Or.inl ⟨by rfl, ?_⟩) hS ?_
  · intro w' hS'
    obtain ⟨s0, s1⟩ := hS'
    go_simp
  change wpAnyU _ _ _ _ _ _ _ _ (Act.put _ (some 4) _) _
  simp only [Act.put, List.setIfInBounds_toArray, List.set_cons_succ, List.set_cons_zero]
  refine wpAnyU_take (i := 3) (v := (.pointer (some ⟨a, 0, none⟩))) rfl (by kernel_rfl) (fun _ _ _ h => h) (leads_of [[13]] (by kernel_rfl)) (by kernel_rfl) (by kernel_rfl) (by kernel_rfl) (Or.inl ⟨by rfl, ?_⟩) hS ?_
  · intro w' hS'
    obtain ⟨s0, s1⟩ := hS'
    go_simp
  change wpAnyU _ _ _ _ _ _ _ _ (Act.put _ (some 5) _) _
  simp only [Act.put, List.setIfInBounds_toArray, List.set_cons_succ, List.set_cons_zero]
  refine wpAnyU_take (i := 4) (v := (.string S.src)) rfl (by kernel_rfl) (fun _ _ _ h => h) (leads_of [[13]] (by kernel_rfl)) (by kernel_rfl) (by kernel_rfl) (by kernel_rfl) (Or.inl ⟨by rfl, ?_⟩) hS ?_
  · intro w' hS'
    obtain ⟨s0, s1⟩ := hS'
    go_simp
  change wpAnyU _ _ _ _ _ _ _ _ (Act.put _ (some 6) _) _
  simp only [Act.put, List.setIfInBounds_toArray, List.set_cons_succ, List.set_cons_zero]
  refine wpAnyU_take (i := 5) (v := (.pointer (some ⟨a, 0, none⟩))) rfl (by kernel_rfl) (fun _ _ _ h => h) (leads_of [[13]] (by kernel_rfl)) (by kernel_rfl) (by kernel_rfl) (by kernel_rfl) (Or.inl ⟨by rfl, ?_⟩) hS ?_
  · intro w' hS'
    obtain ⟨s0, s1⟩ := hS'
    go_simp
  change wpAnyU _ _ _ _ _ _ _ _ (Act.put _ (some 7) _) _
  simp only [Act.put, List.setIfInBounds_toArray, List.set_cons_succ, List.set_cons_zero]
  refine wpAnyU_take (i := 6) (v := (.pointer (some ⟨a, 0, none⟩))) rfl (by kernel_rfl) (fun _ _ _ h => h) (leads_of [[13]] (by kernel_rfl)) (by kernel_rfl) (by kernel_rfl) (by kernel_rfl) (Or.inl ⟨by rfl, ?_⟩) hS ?_
  · intro w' hS'
    obtain ⟨s0, s1⟩ := hS'
    go_simp
  change wpAnyU _ _ _ _ _ _ _ _ (Act.put _ (some 8) _) _
  simp only [Act.put, List.setIfInBounds_toArray, List.set_cons_succ, List.set_cons_zero]
  refine wpAnyU_take (i := 7) (v := (.pointer (some ⟨a, 1, none⟩))) rfl (by kernel_rfl) (fun _ _ _ h => h) (leads_of [[13]] (by kernel_rfl)) (by kernel_rfl) (by kernel_rfl) (by kernel_rfl) (Or.inl ⟨by rfl, ?_⟩) hS ?_
  · intro w' hS'
    obtain ⟨s0, s1⟩ := hS'
    go_simp
  change wpAnyU _ _ _ _ _ _ _ _ (Act.put _ (some 9) _) _
  simp only [Act.put, List.setIfInBounds_toArray, List.set_cons_succ, List.set_cons_zero]
  refine wpAnyU_take (i := 8) (v := (.pointer (some ⟨a, 6, none⟩))) rfl (by kernel_rfl) (fun _ _ _ h => h) (leads_of [[13]] (by kernel_rfl)) (by kernel_rfl) (by kernel_rfl) (by kernel_rfl) (Or.inl ⟨by rfl, ?_⟩) hS ?_
  · intro w' hS'
    obtain ⟨s0, s1⟩ := hS'
    go_simp
  change wpAnyU _ _ _ _ _ _ _ _ (Act.put _ (some 10) _) _
  simp only [Act.put, List.setIfInBounds_toArray, List.set_cons_succ, List.set_cons_zero]
  refine wpAnyU_take (i := 9) (v := (.int .i64 (S.end_ : Nat))) rfl (by kernel_rfl) (fun _ _ _ h => h) (leads_of [[13]] (by kernel_rfl)) (by kernel_rfl) (by kernel_rfl) (by kernel_rfl) (Or.inl ⟨by rfl, ?_⟩) hS ?_
  · intro w' hS'
    obtain ⟨s0, s1⟩ := hS'
    go_simp
  change wpAnyU _ _ _ _ _ _ _ _ (Act.put _ (some 11) _) _
  simp only [Act.put, List.setIfInBounds_toArray, List.set_cons_succ, List.set_cons_zero]
  refine wpAnyU_all (rs := [10]) (by kernel_rfl) (by simp) ?_
  intro j hj
  obtain rfl := List.mem_singleton.1 hj
  clear hj
  refine wpOp_shut rfl (fun K' HK => ?_)
  refine step_call rfl (f := 14) rfl Try.func14 (by kernel_rfl) rfl #[.string S.src, .int .i64 (S.end_ : Nat)] (by simp only [List.map_toArray, List.map_cons, List.map_nil]; rfl) ?_
  refine (tok_c S.src S.end_ HFIT.out.1 HFIT.out.2).mono ?_
  rintro e w1 ⟨rfl, hb1⟩
  refine ⟨_, rfl, ?_⟩
  have HP1 := hid ((HP.out.below (Below.refl w.heap.size w).drew).below hb1)
  have HB1 := hid ((Below.refl w.heap.size w).drew.trans hb1)
  clear hb1
  have z0 := HP1.out.c0
  have z6 := HP1.out.c6
  have f1 := HP1.out.f 1
  have f2 := HP1.out.f 2
  have f3 := HP1.out.f 3
  have f4 := HP1.out.f 4
  have f5 := HP1.out.f 5
  have f6 := HP1.out.f 6
  have d1 := HP1.out.c1
  have d2 := HP1.out.c2
  have d3 := HP1.out.c3
  have d4 := HP1.out.c4
  have d5 := HP1.out.c5
  refine HK.out _ _ ⟨.inr ?_, ?_⟩
  · exact ⟨z0, z6⟩
  clear HK K'
  have hS := And.intro (z0) (z6)
  change wpAnyU _ _ _ _ _ _ _ _ (Act.put _ (some 12) _) _
  simp only [Act.put, List.setIfInBounds_toArray, List.set_cons_succ, List.set_cons_zero]
  refine wpAnyU_take (i := 11) (v := (.pointer (some ⟨a, 0, none⟩))) rfl (by kernel_rfl) (fun _ _ _ h => h) (leads_of [[12, 13]] (by kernel_rfl)) (by kernel_rfl) (by kernel_rfl) (by kernel_rfl) (Or.inl ⟨by rfl, ?_⟩) hS ?_
  · intro w' hS'
    obtain ⟨s0, s1⟩ := hS'
    go_simp
  change wpAnyU _ _ _ _ _ _ _ _ (Act.put _ (some 13) _) _
  simp only [Act.put, List.setIfInBounds_toArray, List.set_cons_succ, List.set_cons_zero]
  refine wpAnyU_take (i := 12) (v := (.pointer (some ⟨a, 1, none⟩))) rfl (by kernel_rfl) (fun _ _ _ h => h) (leads_of [[13]] (by kernel_rfl)) (by kernel_rfl) (by kernel_rfl) (by kernel_rfl) (Or.inl ⟨by rfl, ?_⟩) hS ?_
  · intro w' hS'
    obtain ⟨s0, s1⟩ := hS'
    go_simp
  change wpAnyU _ _ _ _ _ _ _ _ (Act.put _ (some 14) _) _
  simp only [Act.put, List.setIfInBounds_toArray, List.set_cons_succ, List.set_cons_zero]
  refine wpAnyU_all (rs := [13]) (by kernel_rfl) (by simp) ?_
  intro j hj
  obtain rfl := List.mem_singleton.1 hj
  clear hj
  refine wpOp_shut rfl (fun K' HK => ?_)
  go_simp
  refine HK.out _ _ ⟨.inl (by decide), ?_⟩
  clear HK K'
  refine wpAnyU_done (by kernel_rfl) ?_ _
  obtain ⟨T, eT⟩ : ∃ T : Tk, T = (tok S.src S.end_).1 := ⟨_, rfl⟩
  obtain ⟨E, eE⟩ : ∃ E : Nat, E = (tok S.src S.end_).2 := ⟨_, rfl⟩
  have hE : E ≤ S.src.size := by rw [eE]; exact (tok_fits S.src S.end_ HFIT.out.2).2.2.1
  have hmv : S.move = { S with t := T, end_ := E } := by rw [eT, eE]; rfl
  rw [hmv, ← eT, ← eE]
  have h1 : PI (w1.setCell ⟨a, 1, none⟩ (.int .i64 T.kind)) a ok v { S with t := { S.t with kind := T.kind } } := HP1.out.set 1 _ rfl rfl
  have h2 : PI _ a ok v { S with t := { S.t with kind := T.kind, text := T.text } } := h1.set 2 (.string T.text) rfl rfl
  have h3 : PI _ a ok v { S with t := { S.t with kind := T.kind, text := T.text, num := T.num } } := h2.set 3 (.int .i64 T.num) rfl rfl
  have h4 : PI _ a ok v { S with t := { S.t with kind := T.kind, text := T.text, num := T.num, at_ := T.at_ } } := h3.set 4 (.int .i64 T.at_) rfl rfl
  have h5 : PI _ a ok v { S with t := T } := h4.set 5 (.bool T.line) rfl rfl
  have h6 : PI _ a ok v { S with t := T, end_ := E } := h5.setE 6 (.int .i64 E) rfl rfl ⟨HFIT.out.1, hE⟩
  have k0 : Kp (fun k => k = a ∨ ok k) w w1 := Kp.of_below HB1.out
  have ks := fun (w' : World) (i : Nat) (u : Value) (k : Kp (fun k => k = a ∨ ok k) w w') => k.trans (Kp.set (p := ⟨a, i, none⟩) (K := fun k => k = a ∨ ok k) u (.inl rfl)) (fun _ h => .inl h)
  exact bodyPost_end (results_none rfl _ _ _) rfl ⟨rfl, h6.nx (ks _ _ _ (ks _ _ _ (ks _ _ _ (ks _ _ _ (ks _ _ _ (ks _ _ _ k0))))))⟩
end Go.Proofs.Ytibepkblgliooaa.Q
namespace Go.Proofs.Ytibepkblgliooaa.Q
open Go.RowKit
open Go.Proofs.YtibepkblgliooaaW.PrintWords
section
variable {w : World} {a : Nat} {ok : Nat → Prop} {v : Value} {S : Ps}
set_option maxHeartbeats 800000 in
set_option maxRecDepth 100000 in
theorem has_c (h : PI w a ok v S) (s : ByteArray) : Calls Try.prog 65 #[ptr a, .string s] w fun e w' => e = .returned (.bool (S.hasB s)) ∧ Nx w a ok w' (S.has s) := by
  have c9 := h.c9
  have H := hid h
  clear h
  unfold ptr
  cases hb : S.bad
  · rw [hb] at c9
    cases hi : S.is s
    · have hB : S.hasB s = false := by simp [Ps.hasB, hb, hi]
      have e1 := is_c H.out s
      rw [hi] at e1
      have HE1 := hid e1
      have HB := hid hB
      have HS := hid (show S.has s = S by simp [Ps.has, hB])
      clear hB hb hi e1
      go_enter Try.func65, Try.ntmps65
      go_wp2_with (go_at_call 35; refine HE1.out.mono ?_; rintro e w1 ⟨rfl, rfl⟩)
      go_ret
      exact ⟨ret_bool HB.out, by rw [HS.out]; exact H.out.same⟩
    · have hB : S.hasB s = true := by simp [Ps.hasB, hb, hi]
      have e1 := is_c H.out s
      rw [hi] at e1
      have HE1 := hid e1
      have HB := hid hB
      have HS := hid (show S.has s = S.move by simp [Ps.has, hB])
      clear hB hb hi e1
      go_enter Try.func65, Try.ntmps65
      go_wp2_with (first | (go_at_call 35; refine HE1.out.mono ?_; rintro e w1 ⟨rfl, rfl⟩) | (go_at_call 71; refine (move_c H.out).mono ?_; rintro e w2 ⟨rfl, hN⟩; have HN := hid hN; clear hN))
      go_ret
      exact ⟨ret_bool HB.out, by rw [HS.out]; exact HN.out⟩
  · rw [hb] at c9
    have hB : S.hasB s = false := by simp [Ps.hasB, hb]
    have HB := hid hB
    have HS := hid (show S.has s = S by simp [Ps.has, hB])
    clear hB hb
    go_enter Try.func65, Try.ntmps65
    go_wp2_with fail
    go_ret
    exact ⟨ret_bool HB.out, by rw [HS.out]; exact H.out.same⟩
theorem is_hit (h : PI w a ok v S) (s : ByteArray) {b : Bool} (hb : S.is s = b) : Calls Try.prog 35 #[ptr a, .string s] w fun e w' => e = .returned (.bool b) ∧ w = w' := by
  have := is_c h s
  rw [hb] at this
  exact this.mono fun _ _ ⟨h1, h2⟩ => ⟨h1, h2.symm⟩
theorem has_hit (h : PI w a ok v S) (s : ByteArray) (hb : S.hasB s = true) : Calls Try.prog 65 #[ptr a, .string s] w fun e w' => e = .returned (.bool true) ∧ Nx w a ok w' S.move := by
  have := has_c h s
  rwa [hb, show S.has s = S.move by simp [Ps.has, hb]] at this
set_option maxHeartbeats 800000 in
set_option maxRecDepth 100000 in
theorem has_miss (h : PI w a ok v S) (s : ByteArray) (hb : S.hasB s = false) : Calls Try.prog 65 #[ptr a, .string s] w fun e w' => e = .returned (.bool false) ∧ Nx w a ok w' S := by
  have := has_c h s
  rwa [hb, show S.has s = S by simp [Ps.has, hb]] at this
theorem PI.spoil (h : PI w a ok v S) : Nx w a ok (w.setCell ⟨a, 9, none⟩ (.bool true)) S.spoilt := (h.set 9 _ rfl rfl : PI _ a ok v S.spoilt).nx (Kp.set _ (.inl rfl))
set_option maxHeartbeats 800000 in
set_option maxRecDepth 100000 in
theorem must_c (h : PI w a ok v S) (s : ByteArray) : Calls Try.prog 66 #[ptr a, .string s] w fun e w' => e = .returned (.tuple #[]) ∧ Nx w a ok w' (S.must s) := by
  cases hb : S.hasB s
  · have e1 := has_c h s
    rw [hb, show S.has s = S by simp [Ps.has, hb]] at e1
    have HE1 := hid e1
    have HS := hid (show S.must s = S.spoilt by simp [Ps.must, hb])
    unfold ptr at HE1 ⊢
    clear hb e1 h
    go_enter Try.func66, Try.ntmps66
    go_wp2_with fail
    refine HE1.out.mono ?_
    rintro e w1 ⟨rfl, hN⟩
    obtain ⟨ok1, v1, h1, _, _⟩ := id hN
    have c9 := h1.c9
    have f9 := h1.f 9
    have HN := hid hN
    clear hN h1
    go_wp2_with fail
    exact bodyPost_end (results_none rfl _ _ _) rfl ⟨rfl, by rw [HS.out]; exact HN.out.trans (fun _ _ h => h.spoil)⟩
  · have e1 := has_hit h s hb
    have HE1 := hid e1
    have HS := hid (show S.must s = S.move by simp [Ps.must, hb])
    unfold ptr at HE1 ⊢
    clear hb e1 h
    go_enter Try.func66, Try.ntmps66
    go_wp2_with fail
    refine HE1.out.mono ?_
    rintro e w1 ⟨rfl, hN⟩
    have HN := hid hN
    clear hN
    go_wp2_with fail
    exact bodyPost_end (results_none rfl _ _ _) rfl ⟨rfl, by rw [HS.out]; exact HN.out⟩
set_option maxHeartbeats 800000 in
set_option maxRecDepth 100000 in
theorem name_c (h : PI w a ok v S) : Calls Try.prog 70 #[ptr a] w fun e w' => e = .returned (.string S.nameT) ∧ Nx w a ok w' S.name := by
  have c9 := h.c9
  have c1 := h.c1
  have c2 := h.c2
  have f9 := h.f 9
  have H := hid h
  clear h
  unfold ptr
  cases hb : S.bad
  · rw [hb] at c9
    by_cases hk : S.t.kind = 3
    · have hB : S.nameB = true := by simp [Ps.nameB, hb, hk]
      have HS := hid (show S.name = S.move by simp [Ps.name, hB])
      have HT := hid (show S.nameT = S.t.text by simp [Ps.nameT, hB])
      rw [hk] at c1
      clear hB hb hk
      go_enter Try.func70, Try.ntmps70
      go_wp2_with (go_at_call 71; refine (move_c H.out).mono ?_; rintro e w2 ⟨rfl, hN⟩; have HN := hid hN; clear hN)
      go_ret
      exact ⟨ret_str HT.out, by rw [HS.out]; exact HN.out⟩
    · have hB : S.nameB = false := by simp [Ps.nameB, hk]
      have HS := hid (show S.name = S.spoilt by simp [Ps.name, hB])
      have HT := hid (show S.nameT = ⟨#[]⟩ by simp [Ps.nameT, hB])
      clear hB hb
      go_enter Try.func70, Try.ntmps70
      go_wp2_with fail
      go_ret
      exact ⟨ret_str HT.out, by rw [HS.out]; exact H.out.spoil⟩
  · rw [hb] at c9
    have hB : S.nameB = false := by simp [Ps.nameB, hb]
    have HS := hid (show S.name = S.spoilt by simp [Ps.name, hB])
    have HT := hid (show S.nameT = ⟨#[]⟩ by simp [Ps.nameT, hB])
    clear hB hb
    go_enter Try.func70, Try.ntmps70
    go_wp2_with fail
    go_ret
    exact ⟨ret_str HT.out, by rw [HS.out]; exact H.out.spoil⟩
set_option maxHeartbeats 800000 in
set_option maxRecDepth 100000 in
theorem end_c (h : PI w a ok v S) : Calls Try.prog 69 #[ptr a] w fun e w' => e = .returned (.tuple #[]) ∧ Nx w a ok w' S.endS := by
  cases hb : S.hasB (⟨#[59]⟩ : ByteArray)
  · have e1 := has_c h (⟨#[59]⟩ : ByteArray)
    rw [hb, show S.has (⟨#[59]⟩ : ByteArray) = S by simp [Ps.has, hb]] at e1
    have HE1 := hid e1
    unfold ptr at HE1 ⊢
    cases hbad : S.bad
    · by_cases hk : S.t.kind = 0
      · have HS := hid (show S.endS = S by simp [Ps.endS, hb, hbad, hk])
        clear hb e1 h
        go_enter Try.func69, Try.ntmps69
        go_wp2_with fail
        refine HE1.out.mono ?_
        rintro e w1 ⟨rfl, hN⟩
        obtain ⟨ok1, v1, h1, _, _⟩ := id hN
        have c9 := h1.c9
        have c1 := h1.c1
        rw [hbad] at c9
        rw [hk] at c1
        have HN := hid hN
        clear hN h1 hk hbad
        go_wp2_with fail
        exact bodyPost_end (results_none rfl _ _ _) rfl ⟨rfl, by rw [HS.out]; exact HN.out⟩
      · have hk1 : (S.t.kind != 0) = true := by simpa using hk
        cases hi : S.is (⟨#[125]⟩ : ByteArray)
        · cases hl : S.t.line
          · have HS := hid (show S.endS = S.spoilt by simp [Ps.endS, hb, hbad, hk, hi, hl])
            clear hb e1 h
            go_enter Try.func69, Try.ntmps69
            go_wp2_with fail
            refine HE1.out.mono ?_
            rintro e w1 ⟨rfl, hN⟩
            obtain ⟨ok1, v1, h1, k1, s1⟩ := hN
            have c9 := h1.c9
            have c1 := h1.c1
            have c5 := h1.c5
            have f9 := h1.f 9
            have e2 := is_c h1 (⟨#[125]⟩ : ByteArray)
            unfold ptr at e2
            rw [hbad] at c9
            rw [hl] at c5
            rw [hi] at e2
            have HE2 := hid e2
            have H1 := hid h1
            have HK1 := hid k1
            have HS1 := hid s1
            clear h1 k1 s1 e2 hk hbad hi hl
            go_wp2_with (go_at_call 35; refine HE2.out.mono ?_; rintro e w2 ⟨rfl, rfl⟩)
            exact bodyPost_end (results_none rfl _ _ _) rfl ⟨rfl, by rw [HS.out]; exact Nx.trans ⟨ok1, v1, H1.out, HK1.out, HS1.out⟩ (fun _ _ h => h.spoil)⟩
          · have HS := hid (show S.endS = S by simp [Ps.endS, hb, hbad, hl])
            clear hb e1 h
            go_enter Try.func69, Try.ntmps69
            go_wp2_with fail
            refine HE1.out.mono ?_
            rintro e w1 ⟨rfl, hN⟩
            obtain ⟨ok1, v1, h1, _, _⟩ := id hN
            have c9 := h1.c9
            have c1 := h1.c1
            have c5 := h1.c5
            have e2 := is_c h1 (⟨#[125]⟩ : ByteArray)
            unfold ptr at e2
            rw [hbad] at c9
            rw [hl] at c5
            rw [hi] at e2
            have HE2 := hid e2
            have HN := hid hN
            clear h1 hN e2 hk hbad hi hl
            go_wp2_with (go_at_call 35; refine HE2.out.mono ?_; rintro e w2 ⟨rfl, rfl⟩)
            exact bodyPost_end (results_none rfl _ _ _) rfl ⟨rfl, by rw [HS.out]; exact HN.out⟩
        · have HS := hid (show S.endS = S by simp [Ps.endS, hb, hbad, hi])
          clear hb e1 h
          go_enter Try.func69, Try.ntmps69
          go_wp2_with fail
          refine HE1.out.mono ?_
          rintro e w1 ⟨rfl, hN⟩
          obtain ⟨ok1, v1, h1, _, _⟩ := id hN
          have c9 := h1.c9
          have c1 := h1.c1
          have e2 := is_c h1 (⟨#[125]⟩ : ByteArray)
          unfold ptr at e2
          rw [hbad] at c9
          rw [hi] at e2
          have HE2 := hid e2
          have HN := hid hN
          clear h1 hN e2 hk hbad hi
          go_wp2_with (go_at_call 35; refine HE2.out.mono ?_; rintro e w2 ⟨rfl, rfl⟩)
          exact bodyPost_end (results_none rfl _ _ _) rfl ⟨rfl, by rw [HS.out]; exact HN.out⟩
    · have HS := hid (show S.endS = S by simp [Ps.endS, hb, hbad])
      clear hb e1 h
      go_enter Try.func69, Try.ntmps69
      go_wp2_with fail
      refine HE1.out.mono ?_
      rintro e w1 ⟨rfl, hN⟩
      obtain ⟨ok1, v1, h1, _, _⟩ := id hN
      have c9 := h1.c9
      rw [hbad] at c9
      have HN := hid hN
      clear hN h1 hbad
      go_wp2_with fail
      exact bodyPost_ret (v := .tuple #[]) (by simp [results, Try.results69, go_sem]) rfl ⟨rfl, by rw [HS.out]; exact HN.out⟩
  · have e1 := has_hit h (⟨#[59]⟩ : ByteArray) hb
    have HE1 := hid e1
    unfold ptr at HE1 ⊢
    have HS := hid (show S.endS = S.move by simp [Ps.endS, hb])
    clear hb e1 h
    go_enter Try.func69, Try.ntmps69
    go_wp2_with fail
    refine HE1.out.mono ?_
    rintro e w1 ⟨rfl, hN⟩
    have HN := hid hN
    clear hN
    go_wp2_with fail
    exact bodyPost_ret (v := .tuple #[]) (by simp [results, Try.results69, go_sem]) rfl ⟨rfl, by rw [HS.out]; exact HN.out⟩
end
end Go.Proofs.Ytibepkblgliooaa.Q
namespace Go.Proofs.Ytibepkblgliooaa.Q
open Go.RowKit
open Go.Proofs.YtibepkblgliooaaW.PrintWords
/-- Since w0 only the parser's own has turned. -/
structure At (w0 : World) (a : Nat) (ok0 : Nat → Prop) (w : World) (ok : Nat → Prop) (v : Value) (S : Ps) : Prop where
  p : PI w a ok v S
  kp : Kp (fun k => k = a ∨ ok0 k) w0 w
  sub : ∀ k, ok k → ok0 k ∨ w0.heap.size ≤ k
/-- What a call has turned. -/
structure Mv (w : World) (a : Nat) (ok : Nat → Prop) (w' : World) (ok' : Nat → Prop) : Prop where
  kp : Kp (fun k => k = a ∨ ok k) w w'
  sub : ∀ k, ok' k → ok k ∨ w.heap.size ≤ k
/-- A row of numbers of the call's own, made since there were n0 blocks. -/
def LR (n0 : Nat) (w : World) (a : Nat) (ok : Nat → Prop) (val : Value) (ks : List Nat) : Prop :=
  ∃ okl, Kd.N (Kd.int .i64) 3 w 0 okl val (ints ks) ∧ ∀ k, okl k → n0 ≤ k ∧ k < w.heap.size ∧ ¬ ok k ∧ k ≠ a
section
variable {w0 w w' : World} {a : Nat} {ok0 ok ok' : Nat → Prop} {v v' val : Value} {S S' : Ps} {ks : List Nat} {n0 n1 k : Nat}
theorem At.start (h : PI w a ok v S) : At w a ok w ok v S := ⟨h, Kp.refl _ _, fun _ h => .inl h⟩
theorem At.nx (h : At w0 a ok0 w ok v S) : Nx w0 a ok0 w S := ⟨ok, v, h.p, h.kp, h.sub⟩
theorem At.call (h : At w0 a ok0 w ok v S) (hN : Nx w a ok w' S') : ∃ ok' v', At w0 a ok0 w' ok' v' S' ∧ Mv w a ok w' ok' := by
  obtain ⟨ok', v', h1, k1, s1⟩ := hN
  exact ⟨ok', v', ⟨h1, h.kp.trans k1 (fun k hk => hk.elim (fun e => .inl (.inl e)) (fun hk => (h.sub k hk).imp .inr id)), fun k hk => (s1 k hk).elim (h.sub k) (fun h' => .inr (Nat.le_trans h.kp.size h'))⟩, ⟨k1, s1⟩⟩
/-- A call that tells all of what it left. -/
theorem At.trans {w1 w2 : World} {ok1 ok2 : Nat → Prop} {v1 v2 : Value} {S1 S2 : Ps} (h : At w0 a ok0 w1 ok1 v1 S1) (g : At w1 a ok1 w2 ok2 v2 S2) : At w0 a ok0 w2 ok2 v2 S2 ∧ Mv w1 a ok1 w2 ok2 :=
  ⟨⟨g.p, h.kp.trans g.kp (fun k hk => hk.elim (fun e => .inl (.inl e)) (fun hk => (h.sub k hk).imp .inr id)), fun k hk => (g.sub k hk).elim (h.sub k) (fun h' => .inr (Nat.le_trans h.kp.size h'))⟩, ⟨g.kp, g.sub⟩⟩
theorem At.below (h : At w0 a ok0 w ok v S) (hb : Below w.heap.size w w') : At w0 a ok0 w' ok v S := ⟨h.p.below hb, h.kp.below hb, h.sub⟩
theorem LR.nil (n0 : Nat) (w : World) (a : Nat) (ok : Nat → Prop) : LR n0 w a ok (.slice none 0 0) [] := ⟨fun _ => False, Kd.R_N (Kd.R_nil _ _ _ _ _), fun _ h => h.elim⟩
theorem LR.mv (h : LR n0 w a ok val ks) (m : Mv w a ok w' ok') : LR n0 w' a ok' val ks := by
  obtain ⟨okl, h1, h2⟩ := h
  refine ⟨okl, Kd.N_kept h1 m.kp.kept (fun k hk h' => h'.elim (h2 k hk).2.2.2 (h2 k hk).2.2.1), fun k hk => ?_⟩
  obtain ⟨q1, q2, q3, q4⟩ := h2 k hk
  exact ⟨q1, Nat.lt_of_lt_of_le q2 m.kp.size, fun h' => (m.sub k h').elim q3 (fun h'' => by omega), q4⟩
theorem LR.below (h : LR n0 w a ok val ks) (hb : Below w.heap.size w w') : LR n0 w' a ok val ks := by
  obtain ⟨okl, h1, h2⟩ := h
  exact ⟨okl, Kd.N_below h1 hb, fun k hk => ⟨(h2 k hk).1, Nat.lt_of_lt_of_le (h2 k hk).2.1 hb.size, (h2 k hk).2.2⟩⟩
theorem LR.slice (h : LR n0 w a ok val ks) : ∃ A c, val = .slice A ks.length c := by
  obtain ⟨okl, h1, _⟩ := h
  obtain ⟨A, c, e⟩ := Kd.N_slice h1
  exact ⟨A, c, by rw [e, ints_length]⟩
theorem LR.le (h : LR n0 w a ok val ks) (hn : n1 ≤ n0) : LR n1 w a ok val ks := by
  obtain ⟨okl, h1, h2⟩ := h
  exact ⟨okl, h1, fun k hk => ⟨Nat.le_trans hn (h2 k hk).1, (h2 k hk).2⟩⟩
theorem infoInt : (Try.prog.info? 3).map (fun i => (i.zero, i.size, i.bytes)) = some (some (.int .i64 0), 1, 8) := by kernel_rfl
theorem infoStr : (Try.prog.info? 9).map (fun i => (i.zero, i.size, i.bytes)) = some (some (.string ⟨#[]⟩), 1, 16) := by kernel_rfl
/-- One more number. -/
theorem LR.grow (hp : PI w a ok v S) (h0 : n0 ≤ w.heap.size) {w1 : World} {val1 : Value} {okl : Nat → Prop} (h2 : ∀ k, okl k → n0 ≤ k ∧ k < w.heap.size ∧ ¬ ok k ∧ k ≠ a)
    (hN : Kd.N (Kd.int .i64) 3 w1 0 (fun k => okl k ∨ w.heap.size ≤ k) val1 (ints (ks ++ [k]))) : LR n0 w1 a ok val1 (ks ++ [k]) := by
  refine ⟨fun k => (okl k ∨ w.heap.size ≤ k) ∧ k < w1.heap.size, Kd.N_bound hN, fun k hk => ?_⟩
  rcases hk.1 with h' | h'
  · exact ⟨(h2 k h').1, hk.2, (h2 k h').2.2⟩
  · exact ⟨Nat.le_trans h0 h', hk.2, fun ho => by have := hp.lo k ho; omega, fun e => by have := hp.lt; omega⟩
/-- A row beside the parser grows: the parser stays. -/
theorem At.grown (h : At w0 a ok0 w ok v S) (hl : LR n0 w a ok val ks) (h0 : w0.heap.size ≤ n0) {w1 : World} (hg : w.grownBy w1 val.ownBlock) : At w0 a ok0 w1 ok v S := by
  obtain ⟨okl, h1, h2⟩ := hl
  have hk : Kp (fun k => val.ownBlock = some k) w w1 := Kp.grown hg (fun k e => e)
  refine ⟨h.p.kept hk (fun e => (h2 a (h1.1 a e)).2.2.2 rfl) (fun k hk e => (h2 k (h1.1 k e)).2.2.1 hk), h.kp.trans hk (fun k e => .inr (Nat.le_trans h0 (h2 k (h1.1 k e)).1)), h.sub⟩
/-- A row of one number, made. -/
theorem LR.one (h : At w0 a ok0 w ok v S) (k : Nat) : LR w0.heap.size (w.alloc (.cells #[.int .i64 k] 3)) a ok (.slice (some ⟨w.heap.size, 0, none⟩) 1 1) [k] := by
  have ho := World.ownsRow_lit (base := w.heap.size) (e := 3) (size := 1) w #[.int .i64 k] 1 (Nat.le_refl _) (by decide) rfl
  have hR : Kd.R (Kd.int .i64) 3 (w.alloc (.cells #[.int .i64 k] 3)) w.heap.size (fun j => j = w.heap.size) (.slice (some ⟨w.heap.size, 0, none⟩) 1 1) (ints [k]) := by
    refine ⟨fun j hj => by simpa [Value.ownBlock] using hj.symm, [.int .i64 k], ho, rfl, fun j p hp => ?_⟩
    rcases j with _ | j
    · simp only [ints, List.map_cons, List.map_nil, List.getElem?_cons_zero, Option.some.injEq] at hp
      subst hp
      rfl
    · simp [ints] at hp
  refine ⟨_, Kd.N_lower (Kd.R_N hR) (Nat.zero_le _), fun j hj => ?_⟩
  subst hj
  exact ⟨h.kp.size, by simp, fun ho => by have := h.p.lo _ ho; omega, fun e => by have := h.p.lt; omega⟩
/-- A node whose kids are a row beside the parser. -/
theorem LR.node (h : LR n0 w a ok val ks) (hn0 : w0.heap.size ≤ n0) (kind num : Int) (text : ByteArray) (at_ : Nat) :
    ∃ okp, Kd.FK kNd w okp ⟨kind, num, text, [], ks, at_⟩ [.int .i64 kind, .int .i64 num, .string text, .slice none 0 0, val, .int .i64 at_] ∧ (∀ k, okp k → ¬ ok k ∧ k ≠ a) ∧ ∀ k, okp k → w0.heap.size ≤ k := by
  obtain ⟨okl, h1, h2⟩ := h
  obtain ⟨A, c, e⟩ := Kd.N_slice h1
  subst e
  rw [ints_length] at h1 ⊢
  refine ⟨okl, kNd_mkF w okl ⟨kind, num, text, [], ks, at_⟩ (A3 := none) (c3 := 0) (Nat.le_refl _) (Kd.F_nil _ _ _) (A4 := A) (c4 := c) (by have := (Kd.N_reads' h1).2.1; rwa [show ks.length = ks.length from rfl] at this) (Kd.N_F h1), fun k hk => (h2 k hk).2.2, fun k hk => Nat.le_trans hn0 (h2 k hk).1⟩
/-- Behind put. -/
theorem At.put (h : At w0 a ok0 w ok v S) {okp : Nat → Prop} (hp : NxP w a ok okp w' S') (h0 : ∀ k, okp k → w0.heap.size ≤ k) : ∃ ok' v', At w0 a ok0 w' ok' v' S' := by
  obtain ⟨ok', v', h1, k1, s1⟩ := hp
  refine ⟨ok', v', h1, h.kp.trans k1 (fun k hk => hk.elim (fun e => .inl (.inl e)) (fun hk => (h.sub k hk).imp .inr id)), fun k hk => ?_⟩
  rcases s1 k hk with h' | h' | h'
  · exact h.sub k h'
  · exact .inr (h0 k h')
  · exact .inr (Nat.le_trans h.kp.size h')
end
theorem Mv.cell {w w' : World} {a b i : Nat} {ok ok' : Nat → Prop} {u : Value} (m : Mv w a ok w' ok') (hc : w.cell? ⟨b, i, none⟩ = some u) (h1 : b ≠ a) (h2 : ¬ ok b) : w'.cell? ⟨b, i, none⟩ = some u := cell_kept hc m.kp.kept (fun h => h.elim h1 h2)
/-- What a call comes to: a node, or a row of nodes. -/
def Ret (w : World) (a : Nat) (ok : Nat → Prop) (k : Nat) (S' : Ps) (e : Ending) (w' : World) : Prop := e = .returned (.int .i64 k) ∧ Nx w a ok w' S'
def RetL (w : World) (a : Nat) (ok : Nat → Prop) (ks : List Nat) (S' : Ps) (e : Ending) (w' : World) : Prop :=
  ∃ val ok' v', e = .returned val ∧ At w a ok w' ok' v' S' ∧ LR w.heap.size w' a ok' val ks
/-- The parser's functions, so many calls deep, do what run says. -/
structure Good (n : Nat) : Prop where
  list : ∀ {last : Bool} {S S' : Ps} {k : Nat} {ks : List Nat}, run n (.list last []) S = some (k, ks, S') → ∀ {w : World} {a : Nat} {ok : Nat → Prop} {v : Value}, PI w a ok v S → Calls Try.prog 15 #[ptr a, .bool last] w (RetL w a ok ks S')
  commas : ∀ {last : ByteArray} {S S' : Ps} {k : Nat} {ks : List Nat}, run n (.commas last) S = some (k, ks, S') → ∀ {w : World} {a : Nat} {ok : Nat → Prop} {v : Value}, PI w a ok v S → Calls Try.prog 101 #[ptr a, .string last] w (RetL w a ok ks S')
  block : ∀ {S S' : Ps} {k : Nat} {ks : List Nat}, run n .block S = some (k, ks, S') → ∀ {w : World} {a : Nat} {ok : Nat → Prop} {v : Value}, PI w a ok v S → Calls Try.prog 63 #[ptr a] w (Ret w a ok k S')
  stmt : ∀ {S S' : Ps} {k : Nat} {ks : List Nat}, run n .stmt S = some (k, ks, S') → ∀ {w : World} {a : Nat} {ok : Nat → Prop} {v : Value}, PI w a ok v S → Calls Try.prog 36 #[ptr a] w (Ret w a ok k S')
  inner : ∀ {S S' : Ps} {k : Nat} {ks : List Nat}, run n .inner S = some (k, ks, S') → ∀ {w : World} {a : Nat} {ok : Nat → Prop} {v : Value}, PI w a ok v S → Calls Try.prog 68 #[ptr a] w (Ret w a ok k S')
  one : ∀ {S S' : Ps} {k : Nat} {ks : List Nat}, run n .one S = some (k, ks, S') → ∀ {w : World} {a : Nat} {ok : Nat → Prop} {v : Value}, PI w a ok v S → Calls Try.prog 51 #[ptr a] w (Ret w a ok k S')
  fn : ∀ {named : Bool} {S S' : Ps} {k : Nat} {ks : List Nat}, run n (.fn named) S = some (k, ks, S') → ∀ {w : World} {a : Nat} {ok : Nat → Prop} {v : Value}, PI w a ok v S → Calls Try.prog 64 #[ptr a, .bool named] w (Ret w a ok k S')
  e : ∀ {S S' : Ps} {k : Nat} {ks : List Nat}, run n .e S = some (k, ks, S') → ∀ {w : World} {a : Nat} {ok : Nat → Prop} {v : Value}, PI w a ok v S → Calls Try.prog 67 #[ptr a] w (Ret w a ok k S')
  assign : ∀ {S S' : Ps} {k : Nat} {ks : List Nat}, run n .assign S = some (k, ks, S') → ∀ {w : World} {a : Nat} {ok : Nat → Prop} {v : Value}, PI w a ok v S → Calls Try.prog 82 #[ptr a] w (Ret w a ok k S')
  cond : ∀ {S S' : Ps} {k : Nat} {ks : List Nat}, run n .cond S = some (k, ks, S') → ∀ {w : World} {a : Nat} {ok : Nat → Prop} {v : Value}, PI w a ok v S → Calls Try.prog 95 #[ptr a] w (Ret w a ok k S')
  binary : ∀ {level : Nat} {S S' : Ps} {k : Nat} {ks : List Nat}, run n (.binary level) S = some (k, ks, S') → level ≤ 6 → ∀ {w : World} {a : Nat} {ok : Nat → Prop} {v : Value}, PI w a ok v S → Calls Try.prog 96 #[ptr a, .int .i64 level] w (Ret w a ok k S')
  unary : ∀ {S S' : Ps} {k : Nat} {ks : List Nat}, run n .unary S = some (k, ks, S') → ∀ {w : World} {a : Nat} {ok : Nat → Prop} {v : Value}, PI w a ok v S → Calls Try.prog 98 #[ptr a] w (Ret w a ok k S')
  post : ∀ {S S' : Ps} {k : Nat} {ks : List Nat}, run n .post S = some (k, ks, S') → ∀ {w : World} {a : Nat} {ok : Nat → Prop} {v : Value}, PI w a ok v S → Calls Try.prog 99 #[ptr a] w (Ret w a ok k S')
  first : ∀ {S S' : Ps} {k : Nat} {ks : List Nat}, run n .first S = some (k, ks, S') → ∀ {w : World} {a : Nat} {ok : Nat → Prop} {v : Value}, PI w a ok v S → Calls Try.prog 100 #[ptr a] w (Ret w a ok k S')
  obj : ∀ {at_ : Nat} {S S' : Ps} {k : Nat} {ks : List Nat}, run n (.obj [] [] at_) S = some (k, ks, S') → ∀ {w : World} {a : Nat} {ok : Nat → Prop} {v : Value}, PI w a ok v S → Calls Try.prog 103 #[ptr a, .agg #[.int .i64 0, .int .i64 0, .string ⟨#[]⟩, .slice none 0 0, .slice none 0 0, .int .i64 at_]] w (Ret w a ok k S')
end Go.Proofs.Ytibepkblgliooaa.Q
namespace Go.Proofs.Ytibepkblgliooaa.Q
open Go.RowKit
open Go.Proofs.YtibepkblgliooaaW.PrintWords
section
variable {w0 w w' : World} {a : Nat} {ok0 ok ok' : Nat → Prop} {v v' val : Value} {S S' : Ps} {ks : List Nat} {k : Nat}
/-- put, of a node whose kids are a row beside the parser. -/
theorem put_row (h : At w0 a ok0 w ok v S) (hl : LR w0.heap.size w a ok val ks) {kind num : Int} {text : ByteArray} {at_ : Nat} (hs : S.put ⟨kind, num, text, [], ks, at_⟩ = some (k, S')) :
    Calls Try.prog 16 #[ptr a, .agg #[.int .i64 kind, .int .i64 num, .string text, .slice none 0 0, val, .int .i64 at_]] w fun e w' => e = .returned (.int .i64 k) ∧ Nx w0 a ok0 w' S' := by
  obtain ⟨okp, h1, h2, h3⟩ := hl.node (Nat.le_refl _) kind num text at_
  refine (put_c h.p h1 h2 hs).mono ?_
  rintro e w1 ⟨rfl, hp⟩
  obtain ⟨ok', v', h4⟩ := h.put hp h3
  exact ⟨rfl, h4.nx⟩
theorem put_nil (h : At w0 a ok0 w ok v S) {kind num : Int} {text : ByteArray} {at_ : Nat} (hs : S.put ⟨kind, num, text, [], [], at_⟩ = some (k, S')) :
    Calls Try.prog 16 #[ptr a, .agg #[.int .i64 kind, .int .i64 num, .string text, .slice none 0 0, .slice none 0 0, .int .i64 at_]] w fun e w' => e = .returned (.int .i64 k) ∧ Nx w0 a ok0 w' S' :=
  put_row h (LR.nil _ _ _ _) hs
/-- A row of numbers, written down. -/
theorem LR.lit (h : At w0 a ok0 w ok v S) (ks : List Nat) (hm : ks.length ≤ 1000) : LR w0.heap.size (w.alloc (.cells (ks.map (fun k => Value.int .i64 (k : Nat))).toArray 3)) a ok (.slice (some ⟨w.heap.size, 0, none⟩) ks.length ks.length) ks := by
  have ho := World.ownsRow_lit (base := w.heap.size) (e := 3) (size := 1) w (ks.map (fun k => Value.int .i64 (k : Nat))).toArray ks.length (Nat.le_refl _) (by unfold maxLen; omega) (by simp)
  have hR : Kd.R (Kd.int .i64) 3 (w.alloc (.cells (ks.map (fun k => Value.int .i64 (k : Nat))).toArray 3)) w.heap.size (fun j => j = w.heap.size) (.slice (some ⟨w.heap.size, 0, none⟩) ks.length ks.length) (ints ks) := by
    refine ⟨fun j hj => by simpa [Value.ownBlock] using hj.symm, ks.map (fun k => Value.int .i64 (k : Nat)), by rw [ints_length]; exact ho, by simp [ints, Kd.int, Kd.scalar], fun j p hp => ?_⟩
    have hj : j < ks.length := by have := (List.getElem?_eq_some_iff.1 hp).1; simpa [ints] using this
    have hp' : p = (ks[j] : Int) := by simpa [ints, List.getElem?_eq_getElem hj] using hp.symm
    subst hp'
    show ((ks.map (fun k => Value.int .i64 (k : Nat))).drop (j * 1)).take 1 = [Value.int .i64 (ks[j] : Nat)]
    rw [Nat.mul_one, List.drop_eq_getElem_cons (by simpa using hj)]
    simp
  refine ⟨_, Kd.N_lower (Kd.R_N hR) (Nat.zero_le _), fun j hj => ?_⟩
  subst hj
  exact ⟨h.kp.size, by simp, fun ho => by have := h.p.lo _ ho; omega, fun e => by have := h.p.lt; omega⟩
theorem LR.two (h : At w0 a ok0 w ok v S) (k1 k2 : Nat) : LR w0.heap.size (w.alloc (.cells #[.int .i64 k1, .int .i64 k2] 3)) a ok (.slice (some ⟨w.heap.size, 0, none⟩) 2 2) [k1, k2] := LR.lit h [k1, k2] (by simp)
theorem LR.three (h : At w0 a ok0 w ok v S) (k1 k2 k3 : Nat) : LR w0.heap.size (w.alloc (.cells #[.int .i64 k1, .int .i64 k2, .int .i64 k3] 3)) a ok (.slice (some ⟨w.heap.size, 0, none⟩) 3 3) [k1, k2, k3] := LR.lit h [k1, k2, k3] (by simp)
theorem At.alloc (h : At w0 a ok0 w ok v S) (o : Obj) : At w0 a ok0 (w.alloc o) ok v S := h.below ((Below.refl _ _).alloc (Nat.le_refl _) _)
/-- A node of the parser's, read. -/
theorem PI.node (h : PI w a ok v S) {n : Nd} (hk : S.l[k]? = some n) : ∃ g cap, v = .slice (some ⟨g, 0, none⟩) S.l.length cap ∧ g < w.heap.size ∧ k < S.l.length ∧ w.cell? ⟨g, k * 6, none⟩ = some (.int .i64 n.kind) ∧ w.cell? ⟨g, k * 6 + 5, none⟩ = some (.int .i64 n.at_) := by
  have hlt := (List.getElem?_eq_some_iff.1 hk).1
  obtain ⟨g, cap, e, _, hg, _⟩ := Kd.N_form h.row (by omega)
  have hrow := h.row
  rw [e] at hrow
  obtain ⟨c, hcl, hF, hcc, _⟩ := Kd.N_elem hrow n (k : Int) (by omega) (by omega)
  have hx : S.l.getD ((k : Int)).toNat n = n := by simp [List.getD_eq_getElem?_getD, hk]
  rw [hx] at hF
  obtain ⟨A3, c3, A4, c4, rfl, _⟩ := kNd_open (Kd.FK_now hF)
  have h0 := hcc 0 (.int .i64 n.kind) rfl
  have h5 := hcc 5 (.int .i64 n.at_) rfl
  rw [Int.toNat_natCast] at h0 h5
  exact ⟨g, cap, e, hg, hlt, h0, h5⟩
end
section
variable {P : Program} {ops : Array Oper} {rest : List Oper} {o : Oper} {act : Act} {Q : Exit → Act → World → Prop}
variable {w0 w : World} {a : Nat} {ok0 ok : Nat → Prop} {v val : Value} {S : Ps} {ks : List Nat} {k : Nat}
/-- append(row, k), the row beside the parser. -/
theorem LR.append_wp (hgd : o.guard = none) (s x : Operand) (ho : o.op = .call { callee := .builtin .append, args := #[s, x], argTypes := #[35, 35] })
    (h : At w0 a ok0 w ok v S) (hl : LR w0.heap.size w a ok val ks) (hm : ks.length < 1048576) (hs : act.eval s = val) (hx : act.eval x = .slice (some ⟨w.heap.size, 0, none⟩) 1 1)
    (hq : ∀ val1 w1, At w0 a ok0 w1 ok v S → LR w0.heap.size w1 a ok val1 (ks ++ [k]) → wpList Try.prog ops Q rest (act.put o.dst val1) w1) :
    wpList Try.prog ops Q (o :: rest) act (w.alloc (.cells #[.int .i64 k] 3)) := by
  obtain ⟨okl, h1, h2⟩ := id hl
  refine Kd.N_append (Kd.int .i64) (w0 := w) 0 hgd s x 35 3 (.int .i64 0) 8 ho Try.underlying35 infoInt rfl (by decide) (by decide) val (ints ks) (k : Int) [.int .i64 k] (fun j => okl j ∨ w.heap.size ≤ j) (fun _ => False) hs hx (fun _ _ => rfl) (fun _ hk => hk.elim) (fun _ hk => .inr hk)
    (Kd.N_mono h1 (fun _ hk => .inl hk)) (Below.refl _ _) (Nat.zero_le _) (by rw [ints_length]; omega) ?_
  intro val1 w1 hN _ hg _
  have e : ints ks ++ [(k : Int)] = ints (ks ++ [k]) := by simp [ints]
  rw [e] at hN
  exact hq val1 w1 (h.grown hl (Nat.le_refl _) hg) (LR.grow h.p h.kp.size h2 hN)
end
open Go.Proofs.YtibepkblgliooaaW.PrintWords
theorem some3 {k k' : Nat} {ks ks' : List Nat} {S S' : Ps} (h : (some (k, ks, S) : Ans) = some (k', ks', S')) : k = k' ∧ ks = ks' ∧ S = S' := by
  injection h with h
  injection h with h1 h
  injection h with h2 h3
  exact ⟨h1, h2, h3⟩
theorem one1_some {r : Option (Nat × Ps)} {k : Nat} {ks : List Nat} {S' : Ps} (h : one1 r = some (k, ks, S')) : r = some (k, S') ∧ ks = [] := by
  cases r with
  | none => cases h
  | some x =>
    obtain ⟨rfl, rfl, rfl⟩ := some3 h
    exact ⟨rfl, rfl⟩
section
variable {n k : Nat} {ks : List Nat} {S S' : Ps} {w : World} {a : Nat} {ok : Nat → Prop} {v : Value}
set_option maxHeartbeats 800000 in
set_option maxRecDepth 100000 in
theorem e_w (G : ∀ m, m < n → Good m) (hr : run n .e S = some (k, ks, S')) (h : PI w a ok v S) : Calls Try.prog 67 #[ptr a] w (Ret w a ok k S') := by
  cases n with
  | zero => cases hr
  | succ n =>
  have hG := G n (Nat.lt_succ_self n)
  change eF (run n) S = _ at hr
  unfold eF at hr
  have c9 := h.c9
  split at hr
  · rename_i hb
    obtain ⟨rfl, rfl, rfl⟩ := some3 hr
    rw [hb] at c9
    have f9 := h.f 9
    have H := hid h
    unfold ptr
    clear hr hb h G hG
    go_enter Try.func67, Try.ntmps67
    go_wp2_with fail
    go_ret
    exact ⟨ret_nat rfl, H.out.spoil⟩
  · rename_i hb
    rw [show S.bad = false by simpa using hb] at c9
    have H0 := hid (At.start h)
    split at hr
    · rename_i hi
      obtain ⟨rfl, rfl, rfl⟩ := some3 hr
      have e1 := in_c h
      rw [hi] at e1
      have HE := hid e1
      unfold ptr at HE ⊢
      clear hr hb h G hG hi e1
      go_enter Try.func67, Try.ntmps67
      go_wp2_with fail
      clear c9
      refine HE.out.mono ?_
      rintro e w1 ⟨rfl, hN⟩
      obtain ⟨ok1, v1, h1, m1⟩ := H0.out.call hN
      have H1 := hid h1
      have c9 := h1.p.c9
      have f9 := h1.p.f 9
      clear hN h1 m1 H0
      go_wp2_with fail
      go_ret
      exact ⟨ret_nat rfl, H1.out.nx.trans (fun _ _ h => h.spoil)⟩
    · rename_i hi
      obtain ⟨x, hx, hr⟩ := Option.bind_eq_some_iff.1 hr
      obtain ⟨x1, x2, x3⟩ := x
      obtain ⟨rfl, rfl, rfl⟩ := some3 hr
      have e1 := in_c h
      rw [show S.inn.bad = false by simpa using hi] at e1
      have HE := hid e1
      have HX := hid hx
      unfold ptr at HE ⊢
      clear hr hb h hi e1 hx
      go_enter Try.func67, Try.ntmps67
      go_wp2_with fail
      clear c9
      refine HE.out.mono ?_
      rintro e w1 ⟨rfl, hN⟩
      obtain ⟨ok1, v1, h1, m1⟩ := H0.out.call hN
      have H1 := hid h1
      clear hN h1 m1 H0
      go_wp2_with fail
      refine (hG.assign HX.out H1.out.p).mono ?_
      rintro e w2 ⟨rfl, hN⟩
      obtain ⟨ok2, v2, h2, m2⟩ := H1.out.call hN
      have H2 := hid h2
      clear hN h2 m2 H1
      go_wp2_with fail
      refine (out_c H2.out.p).mono ?_
      rintro e w3 ⟨rfl, hN⟩
      obtain ⟨ok3, v3, h3, m3⟩ := H2.out.call hN
      have H3 := hid h3
      clear hN h3 m3 H2
      go_wp2_with fail
      go_ret
      exact ⟨ret_nat rfl, H3.out.nx⟩
theorem At.spoil {w0 w : World} {a : Nat} {ok0 ok : Nat → Prop} {v : Value} {S : Ps} (h : At w0 a ok0 w ok v S) : Nx w0 a ok0 (w.setCell ⟨a, 9, none⟩ (.bool true)) S.spoilt := by
  obtain ⟨_, _, h', _⟩ := h.call h.p.spoil
  exact h'.nx
theorem At.spoilA {w0 w : World} {a : Nat} {ok0 ok : Nat → Prop} {v : Value} {S : Ps} (h : At w0 a ok0 w ok v S) : At w0 a ok0 (w.setCell ⟨a, 9, none⟩ (.bool true)) ok v S.spoilt :=
  ⟨h.p.set 9 _ rfl rfl, h.kp.trans (Kp.set (p := ⟨a, 9, none⟩) (K := fun k => k = a ∨ ok k) _ (.inl rfl)) (fun k hk => hk.elim (fun e => .inl (.inl e)) (fun hk => (h.sub k hk).imp .inr id)), h.sub⟩
theorem if_f {α : Type} {b : Bool} (hb : b = false) (x y : α) : (if b = true then x else y) = y := by rw [hb]; rfl
theorem in_hit (h : PI w a ok v S) {b : Bool} (hb : S.inn.bad = b) : Calls Try.prog 50 #[ptr a] w fun e w' => e = .returned (.bool (!b)) ∧ Nx w a ok w' S.inn := by
  have := in_c h
  rwa [hb] at this
end
end Go.Proofs.Ytibepkblgliooaa.Q
