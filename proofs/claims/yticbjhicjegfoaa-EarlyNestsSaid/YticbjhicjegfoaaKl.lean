/- What a proof further on needs (part l). -/
import Derived.Test.YticbjhicjegfoaaKc
import Derived.Test.YticbjhicjegfoaaKk
set_option linter.unusedVariables false
namespace Go.Proofs.Yticbjhicjegfoaa.Q
open Go.RowKit
open Go.Proofs.YticbjhicjegfoaaW.PrintWords
section
variable {G : EG} {b : Nat} {w W0 X wx : World} {okb okp : Nat → Prop} {bv u1 u2 v1 v2 : Value} {x ahead : List ByteArray} {y : List Bool} {o : Opn} {ks : List Nat} {bad bad' : List Nat} {A A4 : Option Addr} {c c4 : Nat}
theorem SC.made (h : EI G W0 okb bv bad) (hb : Below W0.heap.size W0 X) (ho : OS W0.heap.size X v1 x) (hB : OB W0.heap.size X v2 y) (hc : X.heap[b]? = some (.cells #[u1, u2] 119 (0, 0))) (hle : W0.heap.size ≤ b) (d1 : v1.ownBlock ≠ some b) (d2 : v2.ownBlock ≠ some b) (d : ∀ k, v1.ownBlock = some k → v2.ownBlock ≠ some k) :
    SC G W0.heap.size b okb bv ((X.setCell ⟨b, 0, none⟩ v1).setCell ⟨b, 1, none⟩ v2) v1 v2 v1 v2 x y bad ∧ Below W0.heap.size W0 ((X.setCell ⟨b, 0, none⟩ v1).setCell ⟨b, 1, none⟩ v2) := by
  have n : ∀ k, W0.heap.size ≤ k → ¬ okb k := fun k hk q => by have := (h.off k q).2.2.2.2; omega
  have q : SC G W0.heap.size b okb bv X u1 u2 v1 v2 x y bad := ⟨h.below hb, ho, hB, hc, fun k q => ⟨n k (ho.2 k q).1, fun e => d1 (e ▸ q), d k q⟩, fun k q => ⟨n k (hB.2 k q).1, fun e => d2 (e ▸ q)⟩, n b hle, hle, h.lt.1, h.lt.2.1, h.lt.2.2, fun k q => (h.offl k q).2⟩
  exact ⟨q.put, (hb.setCell hle _).setCell hle _⟩
theorem OB.le {n0 n1 : Nat} {w : World} {val : Value} {l : List Bool} (h : OB n0 w val l) (hn : n1 ≤ n0) : OB n1 w val l := ⟨h.1, fun k hk => ⟨Nat.le_trans hn (h.2 k hk).1, (h.2 k hk).2⟩⟩
set_option maxHeartbeats 3200000 in
set_option maxRecDepth 100000 in
theorem scopeE_c (h : EI G w okb bv bad) (ha : Kd.F Kd.string w okp A ahead.length ahead) (hal : ahead.length ≤ 1048576) (hk : Kd.F (Kd.int .i64) w G.okl A4 ks.length (ints ks)) (hr : scopeF G.l ks (ahead, ahead.map fun _ => false) bad = some (o, bad')) :
    Calls Try.prog 80 #[ptr G.a, .slice A ahead.length c, .slice A4 ks.length c4] w fun e w' => ∃ v1 v2 okb' bv', e = .returned (.agg #[v1, v2]) ∧ EI G w' okb' bv' bad' ∧ Kp (EK G okb) w w' ∧ (∀ k, okb' k → okb k ∨ w.heap.size ≤ k) ∧ OS w.heap.size w' v1 o.1 ∧ OB w.heap.size w' v2 o.2 ∧ (∀ k, v1.ownBlock = some k ∨ v2.ownBlock = some k → ¬ okb' k) := by
  have hmax : ks.length ≤ 9223372036854775807 := Kd.F_max hk
  have hb := (Below.refl w.heap.size w).alloc (Nat.le_refl _) (.cells #[.slice none 0 0, .slice none 0 0] 119)
  have hr0 := heap_alloc_new w (.cells #[.slice none 0 0, .slice none 0 0] 119)
  have H := hid (h.below hb)
  have HA := hid (Kd.F_below ha hb)
  have HK := hid (Kd.F_below hk hb)
  have HR := hid hr
  have HB := hid hb
  have HR0 := hid hr0
  have HLO := hid (show G.a < w.heap.size ∧ G.b1 < w.heap.size ∧ G.b2 < w.heap.size ∧ (∀ k, G.okl k → k < w.heap.size) ∧ (∀ k, okb k → k < w.heap.size) ∧ (w.alloc (.cells #[.slice none 0 0, .slice none 0 0] 119)).heap.size = w.heap.size + 1 from ⟨h.lt.1, h.lt.2.1, h.lt.2.2, fun k q => (h.offl k q).2, fun k q => (h.off k q).2.2.2.2, by simp⟩)
  have hm := fun w => make_bools hal w
  clear h ha hk hr hb hr0
  unfold ptr
  go_enter Try.func80, Try.ntmps80
  go_upto_region 1 with fail
  generalize (w.alloc (.cells #[.slice none 0 0, .slice none 0 0] 119)) = W0 at *
  go_cut [7] (fun x wx => ∃ b v1 v2, x = .pointer (some ⟨b, 0, none⟩) ∧ Box (SC G W0.heap.size b okb bv wx v1 v2 v1 v2 ahead (List.replicate ahead.length false) bad) ∧ Box (Below W0.heap.size W0 wx))
  case first =>
    refine wp_region_until [7] (S := (fun _ => True)) (by kernel_rfl) trivial ?_
    intro hS
    have BX0 := hid ((Below.refl W0.heap.size W0).drew)
    generalize W0.drew = X0 at *
    refine wpAnyU_take (i := 0) (v := (.slice A ahead.length c)) rfl (by kernel_rfl) (fun _ _ _ h => h) (leads_of [[1, 5, 7]] (by kernel_rfl)) (by kernel_rfl) (by kernel_rfl) (by kernel_rfl) (Or.inl ⟨by rfl, ?_⟩) hS ?_
    · intro w' hS'
      go_simp
    change wpAnyU _ _ _ _ _ _ _ _ (Act.put _ (some 12) _) _
    simp only [Act.put, List.setIfInBounds_toArray, List.set_cons_succ, List.set_cons_zero]
    refine wpAnyU_take (i := 2) (v := (.slice A ahead.length c)) rfl (by kernel_rfl) (fun _ _ _ h => h) (leads_of [[3, 4, 5, 7]] (by kernel_rfl)) (by kernel_rfl) (by kernel_rfl) (by kernel_rfl) (Or.inl ⟨by rfl, ?_⟩) hS ?_
    · intro w' hS'
      go_simp
    change wpAnyU _ _ _ _ _ _ _ _ (Act.put _ (some 14) _) _
    simp only [Act.put, List.setIfInBounds_toArray, List.set_cons_succ, List.set_cons_zero]
    refine wpAnyU_take (i := 3) (v := (.int .i64 (ahead.length : Nat))) rfl (by kernel_rfl) (fun _ _ _ h => h) (leads_of [[4, 5, 7]] (by kernel_rfl)) (by kernel_rfl) (by kernel_rfl) (by kernel_rfl) (Or.inl ⟨by rfl, ?_⟩) hS ?_
    · intro w' hS'
      go_simp
    change wpAnyU _ _ _ _ _ _ _ _ (Act.put _ (some 15) _) _
    simp only [Act.put, List.setIfInBounds_toArray, List.set_cons_succ, List.set_cons_zero]
    refine wpAnyU_all (rs := [1, 4, 6]) (by kernel_rfl) (by simp) ?_
    intro j hj
    simp only [List.mem_cons, List.not_mem_nil, or_false] at hj
    rcases hj with rfl | rfl | rfl
    · refine wpOp_shut rfl (fun K' HK => ?_)
      refine step_call rfl (f := 96) rfl Try.func96 (by kernel_rfl) rfl #[.slice A ahead.length c] (by simp only [List.map_toArray, List.map_cons, List.map_nil]; rfl) ?_
      refine (clone_c (Kd.F_below HA.out BX0.out) hal).mono ?_
      rintro e X1 ⟨val, rfl, hO, hB⟩
      obtain ⟨A2, c2, rfl⟩ := hO.slice
      have l1 := hO.2
      have hs : W0.heap.size ≤ X0.heap.size := BX0.out.size
      have HO := hid (hO.le hs)
      refine ⟨_, rfl, ?_⟩
      have BX1 := hid (BX0.out.trans (hB.mono hs))
      have ZX1 := hid hB.size
      clear hB hs
      refine HK.out _ _ ⟨.inr trivial, ?_⟩
      clear HK K'
      change wpAnyU _ _ _ _ _ _ _ _ (Act.put _ (some 13) _) _
      simp only [Act.put, List.setIfInBounds_toArray, List.set_cons_succ, List.set_cons_zero]
      refine wpAnyU_all (rs := [4, 6]) (by kernel_rfl) (by simp) ?_
      intro j hj
      simp only [List.mem_cons, List.not_mem_nil, or_false] at hj
      rcases hj with rfl | rfl
      · refine wpOp_shut rfl (fun K' HK => ?_)
        go_simp
        have hB := (Below.refl X1.heap.size X1).alloc (Nat.le_refl _) (.cells (List.replicate ahead.length (Value.bool false)).toArray 4)
        have hs : W0.heap.size ≤ X1.heap.size := BX1.out.size
        have hz : (X1.alloc (.cells (List.replicate ahead.length (Value.bool false)).toArray 4)).heap.size = X1.heap.size + 1 := by simp
        have HOB := hid ((OB.made X1 ahead.length hal).le hs)
        try rw [← List.toArray_replicate]
        generalize X1.alloc (.cells (List.replicate ahead.length (Value.bool false)).toArray 4) = X2 at *
        have BX2 := hid (BX1.out.trans (hB.mono hs))
        have HO := hid (HO.out.below hB)
        have ZX2 := hid hB.size
        clear hB hs
        have YX2 := hid hz
        clear hz
        refine HK.out _ _ ⟨.inr trivial, ?_⟩
        clear HK K'
        try simp only [Act.put, List.setIfInBounds_toArray, List.set_cons_succ, List.set_cons_zero]
        refine wpAnyU_take (i := 5) (v := (.agg #[.slice A2 ahead.length c2, .slice (some ⟨X1.heap.size, 0, none⟩) ahead.length ahead.length])) rfl (by kernel_rfl) (fun _ _ _ h => h) (leads_of [[7]] (by kernel_rfl)) (by kernel_rfl) (by kernel_rfl) (by kernel_rfl) (Or.inl ⟨by rfl, ?_⟩) hS ?_
        · intro w' hS'
          go_simp
        change wpAnyU _ _ _ _ _ _ _ _ (Act.put _ (some 17) _) _
        simp only [Act.put, List.setIfInBounds_toArray, List.set_cons_succ, List.set_cons_zero]
        refine wpAnyU_all (rs := [6]) (by kernel_rfl) (by simp) ?_
        intro j hj
        obtain rfl := List.mem_singleton.1 hj
        clear hj
        refine wpOp_shut rfl (fun K' HK => ?_)
        go_simp
        have hB := (Below.refl X2.heap.size X2).alloc (Nat.le_refl _) (.cells #[.slice none 0 0, .slice none 0 0] 119)
        have hs : W0.heap.size ≤ X2.heap.size := BX2.out.size
        have hz : (X2.alloc (.cells #[.slice none 0 0, .slice none 0 0] 119)).heap.size = X2.heap.size + 1 := by simp
        have RX := hid (heap_alloc_new X2 (.cells #[.slice none 0 0, .slice none 0 0] 119))
        generalize X2.alloc (.cells #[.slice none 0 0, .slice none 0 0] 119) = X3 at *
        have BX3 := hid (BX2.out.trans (hB.mono hs))
        have HO := hid (HO.out.below hB)
        have HOB := hid (HOB.out.below hB)
        have ZX3 := hid hB.size
        clear hB hs
        have YX3 := hid hz
        clear hz
        refine HK.out _ _ ⟨.inr trivial, ?_⟩
        clear HK K'
        try simp only [Act.put, List.setIfInBounds_toArray, List.set_cons_succ, List.set_cons_zero]
        refine wpAnyU_all (rs := [7]) (by kernel_rfl) (by simp) ?_
        intro j hj
        obtain rfl := List.mem_singleton.1 hj
        clear hj
        refine wpOp_shut rfl (fun K' HK => ?_)
        have q0 := (cell_of_row _ _ 0 _ _ _ RX.out).trans (b := some (Value.slice none 0 0)) rfl
        have q1 := (cell_of_row _ _ 1 _ _ _ RX.out).trans (b := some (Value.slice none 0 0)) rfl
        have g0 : X3.frozen? ⟨X2.heap.size, 0, none⟩ = false := by simp [World.frozen?, RX.out]
        have g1 : X3.frozen? ⟨X2.heap.size, 1, none⟩ = false := by simp [World.frozen?, RX.out]
        go_simp
        refine HK.out _ _ ⟨.inl (by decide), ?_⟩
        clear HK K'
        refine wpAnyU_done (by kernel_rfl) ?_ _
        go_wp2_with fail
        go_meet
        have zX1 := ZX1.out
        have zX2 := ZX2.out
        have zX3 := ZX3.out
        have yX2 := YX2.out
        have yX3 := YX3.out
        have hf := SC.made (v1 := .slice A2 ahead.length c2) H.out BX3.out HO.out HOB.out RX.out BX2.out.size (fun e => by have := l1 _ e; omega) (fun e => by simp [Value.ownBlock] at e; omega) (fun k e e2 => by have := l1 _ e; simp [Value.ownBlock] at e2; omega)
        exact ⟨_, _, _, rfl, hid hf.1, hid hf.2⟩
      · refine wpOp_shut rfl (fun K' HK => ?_)
        go_simp
        have hB := (Below.refl X1.heap.size X1).alloc (Nat.le_refl _) (.cells #[.slice none 0 0, .slice none 0 0] 119)
        have hs : W0.heap.size ≤ X1.heap.size := BX1.out.size
        have hz : (X1.alloc (.cells #[.slice none 0 0, .slice none 0 0] 119)).heap.size = X1.heap.size + 1 := by simp
        have RX := hid (heap_alloc_new X1 (.cells #[.slice none 0 0, .slice none 0 0] 119))
        generalize X1.alloc (.cells #[.slice none 0 0, .slice none 0 0] 119) = X2 at *
        have BX2 := hid (BX1.out.trans (hB.mono hs))
        have HO := hid (HO.out.below hB)
        have ZX2 := hid hB.size
        clear hB hs
        have YX2 := hid hz
        clear hz
        refine HK.out _ _ ⟨.inr trivial, ?_⟩
        clear HK K'
        try simp only [Act.put, List.setIfInBounds_toArray, List.set_cons_succ, List.set_cons_zero]
        refine wpAnyU_all (rs := [4]) (by kernel_rfl) (by simp) ?_
        intro j hj
        obtain rfl := List.mem_singleton.1 hj
        clear hj
        refine wpOp_shut rfl (fun K' HK => ?_)
        go_simp
        have hB := (Below.refl X2.heap.size X2).alloc (Nat.le_refl _) (.cells (List.replicate ahead.length (Value.bool false)).toArray 4)
        have hs : W0.heap.size ≤ X2.heap.size := BX2.out.size
        have hz : (X2.alloc (.cells (List.replicate ahead.length (Value.bool false)).toArray 4)).heap.size = X2.heap.size + 1 := by simp
        have HOB := hid ((OB.made X2 ahead.length hal).le hs)
        try rw [← List.toArray_replicate]
        generalize X2.alloc (.cells (List.replicate ahead.length (Value.bool false)).toArray 4) = X3 at *
        have BX3 := hid (BX2.out.trans (hB.mono hs))
        have HO := hid (HO.out.below hB)
        have RX := hid ((hB.block _ (Array.getElem?_eq_some_iff.1 RX.out).1).trans RX.out)
        have ZX3 := hid hB.size
        clear hB hs
        have YX3 := hid hz
        clear hz
        refine HK.out _ _ ⟨.inr trivial, ?_⟩
        clear HK K'
        try simp only [Act.put, List.setIfInBounds_toArray, List.set_cons_succ, List.set_cons_zero]
        refine wpAnyU_take (i := 5) (v := (.agg #[.slice A2 ahead.length c2, .slice (some ⟨X2.heap.size, 0, none⟩) ahead.length ahead.length])) rfl (by kernel_rfl) (fun _ _ _ h => h) (leads_of [[7]] (by kernel_rfl)) (by kernel_rfl) (by kernel_rfl) (by kernel_rfl) (Or.inl ⟨by rfl, ?_⟩) hS ?_
        · intro w' hS'
          go_simp
        change wpAnyU _ _ _ _ _ _ _ _ (Act.put _ (some 17) _) _
        simp only [Act.put, List.setIfInBounds_toArray, List.set_cons_succ, List.set_cons_zero]
        refine wpAnyU_all (rs := [7]) (by kernel_rfl) (by simp) ?_
        intro j hj
        obtain rfl := List.mem_singleton.1 hj
        clear hj
        refine wpOp_shut rfl (fun K' HK => ?_)
        have q0 := (cell_of_row _ _ 0 _ _ _ RX.out).trans (b := some (Value.slice none 0 0)) rfl
        have q1 := (cell_of_row _ _ 1 _ _ _ RX.out).trans (b := some (Value.slice none 0 0)) rfl
        have g0 : X3.frozen? ⟨X1.heap.size, 0, none⟩ = false := by simp [World.frozen?, RX.out]
        have g1 : X3.frozen? ⟨X1.heap.size, 1, none⟩ = false := by simp [World.frozen?, RX.out]
        go_simp
        refine HK.out _ _ ⟨.inl (by decide), ?_⟩
        clear HK K'
        refine wpAnyU_done (by kernel_rfl) ?_ _
        go_wp2_with fail
        go_meet
        have zX1 := ZX1.out
        have zX2 := ZX2.out
        have zX3 := ZX3.out
        have yX2 := YX2.out
        have yX3 := YX3.out
        have hf := SC.made (v1 := .slice A2 ahead.length c2) H.out BX3.out HO.out HOB.out RX.out BX1.out.size (fun e => by have := l1 _ e; omega) (fun e => by simp [Value.ownBlock] at e; omega) (fun k e e2 => by have := l1 _ e; simp [Value.ownBlock] at e2; omega)
        exact ⟨_, _, _, rfl, hid hf.1, hid hf.2⟩
    · refine wpOp_shut rfl (fun K' HK => ?_)
      go_simp
      have hB := (Below.refl X0.heap.size X0).alloc (Nat.le_refl _) (.cells (List.replicate ahead.length (Value.bool false)).toArray 4)
      have hs : W0.heap.size ≤ X0.heap.size := BX0.out.size
      have hz : (X0.alloc (.cells (List.replicate ahead.length (Value.bool false)).toArray 4)).heap.size = X0.heap.size + 1 := by simp
      have HOB := hid ((OB.made X0 ahead.length hal).le hs)
      try rw [← List.toArray_replicate]
      generalize X0.alloc (.cells (List.replicate ahead.length (Value.bool false)).toArray 4) = X1 at *
      have BX1 := hid (BX0.out.trans (hB.mono hs))
      have ZX1 := hid hB.size
      clear hB hs
      have YX1 := hid hz
      clear hz
      refine HK.out _ _ ⟨.inr trivial, ?_⟩
      clear HK K'
      try simp only [Act.put, List.setIfInBounds_toArray, List.set_cons_succ, List.set_cons_zero]
      refine wpAnyU_all (rs := [1, 6]) (by kernel_rfl) (by simp) ?_
      intro j hj
      simp only [List.mem_cons, List.not_mem_nil, or_false] at hj
      rcases hj with rfl | rfl
      · refine wpOp_shut rfl (fun K' HK => ?_)
        refine step_call rfl (f := 96) rfl Try.func96 (by kernel_rfl) rfl #[.slice A ahead.length c] (by simp only [List.map_toArray, List.map_cons, List.map_nil]; rfl) ?_
        refine (clone_c (Kd.F_below HA.out BX1.out) hal).mono ?_
        rintro e X2 ⟨val, rfl, hO, hB⟩
        obtain ⟨A2, c2, rfl⟩ := hO.slice
        have l1 := hO.2
        have hs : W0.heap.size ≤ X1.heap.size := BX1.out.size
        have HO := hid (hO.le hs)
        refine ⟨_, rfl, ?_⟩
        have BX2 := hid (BX1.out.trans (hB.mono hs))
        have HOB := hid (HOB.out.below hB)
        have ZX2 := hid hB.size
        clear hB hs
        refine HK.out _ _ ⟨.inr trivial, ?_⟩
        clear HK K'
        change wpAnyU _ _ _ _ _ _ _ _ (Act.put _ (some 13) _) _
        simp only [Act.put, List.setIfInBounds_toArray, List.set_cons_succ, List.set_cons_zero]
        refine wpAnyU_take (i := 5) (v := (.agg #[.slice A2 ahead.length c2, .slice (some ⟨X0.heap.size, 0, none⟩) ahead.length ahead.length])) rfl (by kernel_rfl) (fun _ _ _ h => h) (leads_of [[7]] (by kernel_rfl)) (by kernel_rfl) (by kernel_rfl) (by kernel_rfl) (Or.inl ⟨by rfl, ?_⟩) hS ?_
        · intro w' hS'
          go_simp
        change wpAnyU _ _ _ _ _ _ _ _ (Act.put _ (some 17) _) _
        simp only [Act.put, List.setIfInBounds_toArray, List.set_cons_succ, List.set_cons_zero]
        refine wpAnyU_all (rs := [6]) (by kernel_rfl) (by simp) ?_
        intro j hj
        obtain rfl := List.mem_singleton.1 hj
        clear hj
        refine wpOp_shut rfl (fun K' HK => ?_)
        go_simp
        have hB := (Below.refl X2.heap.size X2).alloc (Nat.le_refl _) (.cells #[.slice none 0 0, .slice none 0 0] 119)
        have hs : W0.heap.size ≤ X2.heap.size := BX2.out.size
        have hz : (X2.alloc (.cells #[.slice none 0 0, .slice none 0 0] 119)).heap.size = X2.heap.size + 1 := by simp
        have RX := hid (heap_alloc_new X2 (.cells #[.slice none 0 0, .slice none 0 0] 119))
        generalize X2.alloc (.cells #[.slice none 0 0, .slice none 0 0] 119) = X3 at *
        have BX3 := hid (BX2.out.trans (hB.mono hs))
        have HO := hid (HO.out.below hB)
        have HOB := hid (HOB.out.below hB)
        have ZX3 := hid hB.size
        clear hB hs
        have YX3 := hid hz
        clear hz
        refine HK.out _ _ ⟨.inr trivial, ?_⟩
        clear HK K'
        try simp only [Act.put, List.setIfInBounds_toArray, List.set_cons_succ, List.set_cons_zero]
        refine wpAnyU_all (rs := [7]) (by kernel_rfl) (by simp) ?_
        intro j hj
        obtain rfl := List.mem_singleton.1 hj
        clear hj
        refine wpOp_shut rfl (fun K' HK => ?_)
        have q0 := (cell_of_row _ _ 0 _ _ _ RX.out).trans (b := some (Value.slice none 0 0)) rfl
        have q1 := (cell_of_row _ _ 1 _ _ _ RX.out).trans (b := some (Value.slice none 0 0)) rfl
        have g0 : X3.frozen? ⟨X2.heap.size, 0, none⟩ = false := by simp [World.frozen?, RX.out]
        have g1 : X3.frozen? ⟨X2.heap.size, 1, none⟩ = false := by simp [World.frozen?, RX.out]
        go_simp
        refine HK.out _ _ ⟨.inl (by decide), ?_⟩
        clear HK K'
        refine wpAnyU_done (by kernel_rfl) ?_ _
        go_wp2_with fail
        go_meet
        have zX1 := ZX1.out
        have zX2 := ZX2.out
        have zX3 := ZX3.out
        have yX1 := YX1.out
        have yX3 := YX3.out
        have hf := SC.made (v1 := .slice A2 ahead.length c2) H.out BX3.out HO.out HOB.out RX.out BX2.out.size (fun e => by have := l1 _ e; omega) (fun e => by simp [Value.ownBlock] at e; omega) (fun k e e2 => by have := l1 _ e; simp [Value.ownBlock] at e2; omega)
        exact ⟨_, _, _, rfl, hid hf.1, hid hf.2⟩
      · refine wpOp_shut rfl (fun K' HK => ?_)
        go_simp
        have hB := (Below.refl X1.heap.size X1).alloc (Nat.le_refl _) (.cells #[.slice none 0 0, .slice none 0 0] 119)
        have hs : W0.heap.size ≤ X1.heap.size := BX1.out.size
        have hz : (X1.alloc (.cells #[.slice none 0 0, .slice none 0 0] 119)).heap.size = X1.heap.size + 1 := by simp
        have RX := hid (heap_alloc_new X1 (.cells #[.slice none 0 0, .slice none 0 0] 119))
        generalize X1.alloc (.cells #[.slice none 0 0, .slice none 0 0] 119) = X2 at *
        have BX2 := hid (BX1.out.trans (hB.mono hs))
        have HOB := hid (HOB.out.below hB)
        have ZX2 := hid hB.size
        clear hB hs
        have YX2 := hid hz
        clear hz
        refine HK.out _ _ ⟨.inr trivial, ?_⟩
        clear HK K'
        try simp only [Act.put, List.setIfInBounds_toArray, List.set_cons_succ, List.set_cons_zero]
        refine wpAnyU_all (rs := [1]) (by kernel_rfl) (by simp) ?_
        intro j hj
        obtain rfl := List.mem_singleton.1 hj
        clear hj
        refine wpOp_shut rfl (fun K' HK => ?_)
        refine step_call rfl (f := 96) rfl Try.func96 (by kernel_rfl) rfl #[.slice A ahead.length c] (by simp only [List.map_toArray, List.map_cons, List.map_nil]; rfl) ?_
        refine (clone_c (Kd.F_below HA.out BX2.out) hal).mono ?_
        rintro e X3 ⟨val, rfl, hO, hB⟩
        obtain ⟨A2, c2, rfl⟩ := hO.slice
        have l1 := hO.2
        have hs : W0.heap.size ≤ X2.heap.size := BX2.out.size
        have HO := hid (hO.le hs)
        refine ⟨_, rfl, ?_⟩
        have BX3 := hid (BX2.out.trans (hB.mono hs))
        have HOB := hid (HOB.out.below hB)
        have RX := hid ((hB.block _ (Array.getElem?_eq_some_iff.1 RX.out).1).trans RX.out)
        have ZX3 := hid hB.size
        clear hB hs
        refine HK.out _ _ ⟨.inr trivial, ?_⟩
        clear HK K'
        change wpAnyU _ _ _ _ _ _ _ _ (Act.put _ (some 13) _) _
        simp only [Act.put, List.setIfInBounds_toArray, List.set_cons_succ, List.set_cons_zero]
        refine wpAnyU_take (i := 5) (v := (.agg #[.slice A2 ahead.length c2, .slice (some ⟨X0.heap.size, 0, none⟩) ahead.length ahead.length])) rfl (by kernel_rfl) (fun _ _ _ h => h) (leads_of [[7]] (by kernel_rfl)) (by kernel_rfl) (by kernel_rfl) (by kernel_rfl) (Or.inl ⟨by rfl, ?_⟩) hS ?_
        · intro w' hS'
          go_simp
        change wpAnyU _ _ _ _ _ _ _ _ (Act.put _ (some 17) _) _
        simp only [Act.put, List.setIfInBounds_toArray, List.set_cons_succ, List.set_cons_zero]
        refine wpAnyU_all (rs := [7]) (by kernel_rfl) (by simp) ?_
        intro j hj
        obtain rfl := List.mem_singleton.1 hj
        clear hj
        refine wpOp_shut rfl (fun K' HK => ?_)
        have q0 := (cell_of_row _ _ 0 _ _ _ RX.out).trans (b := some (Value.slice none 0 0)) rfl
        have q1 := (cell_of_row _ _ 1 _ _ _ RX.out).trans (b := some (Value.slice none 0 0)) rfl
        have g0 : X3.frozen? ⟨X1.heap.size, 0, none⟩ = false := by simp [World.frozen?, RX.out]
        have g1 : X3.frozen? ⟨X1.heap.size, 1, none⟩ = false := by simp [World.frozen?, RX.out]
        go_simp
        refine HK.out _ _ ⟨.inl (by decide), ?_⟩
        clear HK K'
        refine wpAnyU_done (by kernel_rfl) ?_ _
        go_wp2_with fail
        go_meet
        have zX1 := ZX1.out
        have zX2 := ZX2.out
        have zX3 := ZX3.out
        have yX1 := YX1.out
        have yX2 := YX2.out
        have hf := SC.made (v1 := .slice A2 ahead.length c2) H.out BX3.out HO.out HOB.out RX.out BX1.out.size (fun e => by have := l1 _ e; omega) (fun e => by simp [Value.ownBlock] at e; omega) (fun k e e2 => by have := l1 _ e; simp [Value.ownBlock] at e2; omega)
        exact ⟨_, _, _, rfl, hid hf.1, hid hf.2⟩
    · refine wpOp_shut rfl (fun K' HK => ?_)
      go_simp
      have hB := (Below.refl X0.heap.size X0).alloc (Nat.le_refl _) (.cells #[.slice none 0 0, .slice none 0 0] 119)
      have hs : W0.heap.size ≤ X0.heap.size := BX0.out.size
      have hz : (X0.alloc (.cells #[.slice none 0 0, .slice none 0 0] 119)).heap.size = X0.heap.size + 1 := by simp
      have RX := hid (heap_alloc_new X0 (.cells #[.slice none 0 0, .slice none 0 0] 119))
      generalize X0.alloc (.cells #[.slice none 0 0, .slice none 0 0] 119) = X1 at *
      have BX1 := hid (BX0.out.trans (hB.mono hs))
      have ZX1 := hid hB.size
      clear hB hs
      have YX1 := hid hz
      clear hz
      refine HK.out _ _ ⟨.inr trivial, ?_⟩
      clear HK K'
      try simp only [Act.put, List.setIfInBounds_toArray, List.set_cons_succ, List.set_cons_zero]
      refine wpAnyU_all (rs := [1, 4]) (by kernel_rfl) (by simp) ?_
      intro j hj
      simp only [List.mem_cons, List.not_mem_nil, or_false] at hj
      rcases hj with rfl | rfl
      · refine wpOp_shut rfl (fun K' HK => ?_)
        refine step_call rfl (f := 96) rfl Try.func96 (by kernel_rfl) rfl #[.slice A ahead.length c] (by simp only [List.map_toArray, List.map_cons, List.map_nil]; rfl) ?_
        refine (clone_c (Kd.F_below HA.out BX1.out) hal).mono ?_
        rintro e X2 ⟨val, rfl, hO, hB⟩
        obtain ⟨A2, c2, rfl⟩ := hO.slice
        have l1 := hO.2
        have hs : W0.heap.size ≤ X1.heap.size := BX1.out.size
        have HO := hid (hO.le hs)
        refine ⟨_, rfl, ?_⟩
        have BX2 := hid (BX1.out.trans (hB.mono hs))
        have RX := hid ((hB.block _ (Array.getElem?_eq_some_iff.1 RX.out).1).trans RX.out)
        have ZX2 := hid hB.size
        clear hB hs
        refine HK.out _ _ ⟨.inr trivial, ?_⟩
        clear HK K'
        change wpAnyU _ _ _ _ _ _ _ _ (Act.put _ (some 13) _) _
        simp only [Act.put, List.setIfInBounds_toArray, List.set_cons_succ, List.set_cons_zero]
        refine wpAnyU_all (rs := [4]) (by kernel_rfl) (by simp) ?_
        intro j hj
        obtain rfl := List.mem_singleton.1 hj
        clear hj
        refine wpOp_shut rfl (fun K' HK => ?_)
        go_simp
        have hB := (Below.refl X2.heap.size X2).alloc (Nat.le_refl _) (.cells (List.replicate ahead.length (Value.bool false)).toArray 4)
        have hs : W0.heap.size ≤ X2.heap.size := BX2.out.size
        have hz : (X2.alloc (.cells (List.replicate ahead.length (Value.bool false)).toArray 4)).heap.size = X2.heap.size + 1 := by simp
        have HOB := hid ((OB.made X2 ahead.length hal).le hs)
        try rw [← List.toArray_replicate]
        generalize X2.alloc (.cells (List.replicate ahead.length (Value.bool false)).toArray 4) = X3 at *
        have BX3 := hid (BX2.out.trans (hB.mono hs))
        have HO := hid (HO.out.below hB)
        have RX := hid ((hB.block _ (Array.getElem?_eq_some_iff.1 RX.out).1).trans RX.out)
        have ZX3 := hid hB.size
        clear hB hs
        have YX3 := hid hz
        clear hz
        refine HK.out _ _ ⟨.inr trivial, ?_⟩
        clear HK K'
        try simp only [Act.put, List.setIfInBounds_toArray, List.set_cons_succ, List.set_cons_zero]
        refine wpAnyU_take (i := 5) (v := (.agg #[.slice A2 ahead.length c2, .slice (some ⟨X2.heap.size, 0, none⟩) ahead.length ahead.length])) rfl (by kernel_rfl) (fun _ _ _ h => h) (leads_of [[7]] (by kernel_rfl)) (by kernel_rfl) (by kernel_rfl) (by kernel_rfl) (Or.inl ⟨by rfl, ?_⟩) hS ?_
        · intro w' hS'
          go_simp
        change wpAnyU _ _ _ _ _ _ _ _ (Act.put _ (some 17) _) _
        simp only [Act.put, List.setIfInBounds_toArray, List.set_cons_succ, List.set_cons_zero]
        refine wpAnyU_all (rs := [7]) (by kernel_rfl) (by simp) ?_
        intro j hj
        obtain rfl := List.mem_singleton.1 hj
        clear hj
        refine wpOp_shut rfl (fun K' HK => ?_)
        have q0 := (cell_of_row _ _ 0 _ _ _ RX.out).trans (b := some (Value.slice none 0 0)) rfl
        have q1 := (cell_of_row _ _ 1 _ _ _ RX.out).trans (b := some (Value.slice none 0 0)) rfl
        have g0 : X3.frozen? ⟨X0.heap.size, 0, none⟩ = false := by simp [World.frozen?, RX.out]
        have g1 : X3.frozen? ⟨X0.heap.size, 1, none⟩ = false := by simp [World.frozen?, RX.out]
        go_simp
        refine HK.out _ _ ⟨.inl (by decide), ?_⟩
        clear HK K'
        refine wpAnyU_done (by kernel_rfl) ?_ _
        go_wp2_with fail
        go_meet
        have zX1 := ZX1.out
        have zX2 := ZX2.out
        have zX3 := ZX3.out
        have yX1 := YX1.out
        have yX3 := YX3.out
        have hf := SC.made (v1 := .slice A2 ahead.length c2) H.out BX3.out HO.out HOB.out RX.out BX0.out.size (fun e => by have := l1 _ e; omega) (fun e => by simp [Value.ownBlock] at e; omega) (fun k e e2 => by have := l1 _ e; simp [Value.ownBlock] at e2; omega)
        exact ⟨_, _, _, rfl, hid hf.1, hid hf.2⟩
      · refine wpOp_shut rfl (fun K' HK => ?_)
        go_simp
        have hB := (Below.refl X1.heap.size X1).alloc (Nat.le_refl _) (.cells (List.replicate ahead.length (Value.bool false)).toArray 4)
        have hs : W0.heap.size ≤ X1.heap.size := BX1.out.size
        have hz : (X1.alloc (.cells (List.replicate ahead.length (Value.bool false)).toArray 4)).heap.size = X1.heap.size + 1 := by simp
        have HOB := hid ((OB.made X1 ahead.length hal).le hs)
        try rw [← List.toArray_replicate]
        generalize X1.alloc (.cells (List.replicate ahead.length (Value.bool false)).toArray 4) = X2 at *
        have BX2 := hid (BX1.out.trans (hB.mono hs))
        have RX := hid ((hB.block _ (Array.getElem?_eq_some_iff.1 RX.out).1).trans RX.out)
        have ZX2 := hid hB.size
        clear hB hs
        have YX2 := hid hz
        clear hz
        refine HK.out _ _ ⟨.inr trivial, ?_⟩
        clear HK K'
        try simp only [Act.put, List.setIfInBounds_toArray, List.set_cons_succ, List.set_cons_zero]
        refine wpAnyU_all (rs := [1]) (by kernel_rfl) (by simp) ?_
        intro j hj
        obtain rfl := List.mem_singleton.1 hj
        clear hj
        refine wpOp_shut rfl (fun K' HK => ?_)
        refine step_call rfl (f := 96) rfl Try.func96 (by kernel_rfl) rfl #[.slice A ahead.length c] (by simp only [List.map_toArray, List.map_cons, List.map_nil]; rfl) ?_
        refine (clone_c (Kd.F_below HA.out BX2.out) hal).mono ?_
        rintro e X3 ⟨val, rfl, hO, hB⟩
        obtain ⟨A2, c2, rfl⟩ := hO.slice
        have l1 := hO.2
        have hs : W0.heap.size ≤ X2.heap.size := BX2.out.size
        have HO := hid (hO.le hs)
        refine ⟨_, rfl, ?_⟩
        have BX3 := hid (BX2.out.trans (hB.mono hs))
        have HOB := hid (HOB.out.below hB)
        have RX := hid ((hB.block _ (Array.getElem?_eq_some_iff.1 RX.out).1).trans RX.out)
        have ZX3 := hid hB.size
        clear hB hs
        refine HK.out _ _ ⟨.inr trivial, ?_⟩
        clear HK K'
        change wpAnyU _ _ _ _ _ _ _ _ (Act.put _ (some 13) _) _
        simp only [Act.put, List.setIfInBounds_toArray, List.set_cons_succ, List.set_cons_zero]
        refine wpAnyU_take (i := 5) (v := (.agg #[.slice A2 ahead.length c2, .slice (some ⟨X1.heap.size, 0, none⟩) ahead.length ahead.length])) rfl (by kernel_rfl) (fun _ _ _ h => h) (leads_of [[7]] (by kernel_rfl)) (by kernel_rfl) (by kernel_rfl) (by kernel_rfl) (Or.inl ⟨by rfl, ?_⟩) hS ?_
        · intro w' hS'
          go_simp
        change wpAnyU _ _ _ _ _ _ _ _ (Act.put _ (some 17) _) _
        simp only [Act.put, List.setIfInBounds_toArray, List.set_cons_succ, List.set_cons_zero]
        refine wpAnyU_all (rs := [7]) (by kernel_rfl) (by simp) ?_
        intro j hj
        obtain rfl := List.mem_singleton.1 hj
        clear hj
        refine wpOp_shut rfl (fun K' HK => ?_)
        have q0 := (cell_of_row _ _ 0 _ _ _ RX.out).trans (b := some (Value.slice none 0 0)) rfl
        have q1 := (cell_of_row _ _ 1 _ _ _ RX.out).trans (b := some (Value.slice none 0 0)) rfl
        have g0 : X3.frozen? ⟨X0.heap.size, 0, none⟩ = false := by simp [World.frozen?, RX.out]
        have g1 : X3.frozen? ⟨X0.heap.size, 1, none⟩ = false := by simp [World.frozen?, RX.out]
        go_simp
        refine HK.out _ _ ⟨.inl (by decide), ?_⟩
        clear HK K'
        refine wpAnyU_done (by kernel_rfl) ?_ _
        go_wp2_with fail
        go_meet
        have zX1 := ZX1.out
        have zX2 := ZX2.out
        have zX3 := ZX3.out
        have yX1 := YX1.out
        have yX2 := YX2.out
        have hf := SC.made (v1 := .slice A2 ahead.length c2) H.out BX3.out HO.out HOB.out RX.out BX0.out.size (fun e => by have := l1 _ e; omega) (fun e => by simp [Value.ownBlock] at e; omega) (fun k e e2 => by have := l1 _ e; simp [Value.ownBlock] at e2; omega)
        exact ⟨_, _, _, rfl, hid hf.1, hid hf.2⟩
  case rest =>
    obtain ⟨b, v1, v2, rfl, HC, HB2⟩ := hcut
    have hmn : ahead.map (fun _ => false) = List.replicate ahead.length false := List.map_const' ..
    have hr1 := HR.out
    rw [hmn] at hr1
    have HR1 := hid hr1
    have HKP := hid (Kp.of_below (K := EK G okb) HB2.out)
    have HLE := hid HB2.out.size
    have HL := hid (show ahead.length = (List.replicate ahead.length false).length by simp)
    have HKW := hid (fun j (hj : G.okl j) => HC.out.lo.2.2.2 j hj)
    clear hmn hr1 HR hm HA
    go_wp2_with fail
    go_loopw [20] (fun x wx => ∃ (j : Nat) (u1 u2 : Value) (xs : List ByteArray) (ys : List Bool) (T : List Nat) (o1 : Nat → Prop) (bv1 : Value), j ≤ ks.length ∧ x = .int .i64 j ∧ Box (SC G W0.heap.size b o1 bv1 wx u1 u2 u1 u2 xs ys T) ∧ Box (xs.length = ys.length) ∧ Box (scopeF G.l (ks.drop j) (xs, ys) T = some (o, bad')) ∧ Box (Kp (EK G okb) W0 wx) ∧ Box (∀ k, o1 k → okb k ∨ W0.heap.size ≤ k)) (fun x _ => ks.length - (RowKit.intOf x).toNat)
    case atStart => exact ⟨0, v1, v2, ahead, List.replicate ahead.length false, bad, okb, bv, Nat.zero_le _, rfl, HC, HL, HR1, HKP, hid (fun _ h => .inl h)⟩
    case round =>
      clear HC HL HR1 HKP HB2 HLE
      obtain ⟨j, u1, u2, xs, ys, T, o1, bv1, hj, rfl, HC, HL, HR, HKP, HO1⟩ := hrel
      rcases Nat.lt_or_ge j ks.length with hlt | hge
      · have hlt' : (j : Int) < (ks.length : Int) := by omega
        have hp : (0 : Int) ≤ (j : Int) := by omega
        have hk1 := Kd.F_step HK.out (W1 := wr) (fun j hj _ => HKP.out.offE H.out.offL j hj)
        obtain ⟨ad, rfl, hc⟩ := Kd.at_int (Kd.F_now hk1) (j : Int) (by omega) (by omega)
        have hx : rd (ints ks) (j : Int) = (ks[j] : Int) := by unfold rd ints; simp [hlt]
        rw [hx, Int.toNat_natCast] at hc
        have hr := HR.out
        rw [List.drop_eq_getElem_cons hlt] at hr
        unfold scopeF at hr
        obtain ⟨d, hd, hr⟩ := Option.bind_eq_some_iff.1 hr
        generalize ks[j] = k at hc hd hr
        have HD := hid (declE_c HC.out.ei.c0 HC.out.ei.nodes hd)
        have HR2 := hid hr
        clear hx hr hd HR hk1
        unfold ptr at HD
        go_wp2_with fail
        refine HD.out.mono ?_
        rintro e w2 ⟨rfl, hb2⟩
        have HC2 := hid (HC.out.below hb2)
        have HKP2 := hid (HKP.out.below hb2)
        clear hb2 HC HKP HD hc
        cases d with
        | none =>
          unfold declV
          go_wp2_with fail
          go_roundw
          case rel => exact ⟨j + 1, u1, u2, xs, ys, T, o1, bv1, by omega, by go_num, HC2, HL, HR2, HKP2, HO1⟩
          case measure => simp [RowKit.intOf]; omega
        | some s =>
          have hr := HR2.out
          dsimp only at hr
          obtain ⟨n, hn, hr⟩ := Option.bind_eq_some_iff.1 hr
          obtain ⟨T2, hT, hr⟩ := Option.bind_eq_some_iff.1 hr
          split at hr
          · rename_i hxl
            have hxl : xs.length < 1048576 := hxl
            obtain ⟨A1, c1, ev⟩ := HC2.out.os.slice
            subst ev
            obtain ⟨A2, c2, ev⟩ := HC2.out.ob.slice
            subst ev
            obtain ⟨_, _, _, _, hkl, n0, _, _, _, _, n5, _⟩ := HC2.out.ei.nodes.node hn
            have hkl' : (k : Int) < (G.l.length : Int) := by omega
            have hkp : (0 : Int) ≤ (k : Int) := by omega
            have a0 := HC2.out.c0
            have a1 := HC2.out.ei.c0
            have HCC := hid (Kd.F_now (Kd.N_F HC2.out.os.1))
            have hw := wrong_c (HC2.out.ei.below (below_drew (Below.refl _ _))) hT
            unfold ptr at hw
            have HW := hid hw
            generalize hq : decide (n.kind = 22) = q at hr
            have HR3 := hid hr
            have HNN := hid hn
            clear hr hT hw HR2 hn n0
            unfold declV
            go_upto_region 7 with fail
            go_cut [] (fun wx => ∃ o2 bv2, Box (SC G W0.heap.size b o2 bv2 wx (.slice A1 xs.length c1) (.slice A2 ys.length c2) (.slice A1 xs.length c1) (.slice A2 ys.length c2) xs ys T2) ∧ Box (Kp (EK G okb) W0 wx) ∧ Box (∀ k, o2 k → okb k ∨ W0.heap.size ≤ k))
            case first =>
              go_region_held3 (fun w' => w'.cell? ⟨b, 0, none⟩ = some (.slice A1 xs.length c1) ∧ w'.cell? ⟨G.a, 0, none⟩ = some (.slice (some ⟨G.g, 0, none⟩) G.l.length G.cap) ∧ w'.cell? ⟨G.g, k * 6 + 5, none⟩ = some (.int .i64 n.at_)) (first | exact ⟨a0, a1, n5⟩ | exact ⟨a0', a1', n5'⟩)
                (first
                  | (go_at_call 92; refine (contains_c (Kd.C_below HCC.out (below_drew (Below.refl _ _))) (Nat.le_of_lt hxl) s).mono ?_; rintro e w3 ⟨rfl, rfl⟩)
                  | (go_at_call 54; refine HW.out.mono ?_; rintro e w4 ⟨rfl, o2, bv2, h2, k2, s2⟩; have hC4 := (HC2.out.below (below_drew (Below.refl _ _))).note h2 k2 s2; have a0' := hC4.c0; have a1' := hC4.ei.c0; obtain ⟨_, _, _, _, _, _, _, _, _, _, n5', _⟩ := hC4.ei.nodes.node HNN.out; have HC4 := hid hC4; have K2 := hid k2; have S2 := hid s2; clear hC4 h2 k2 s2))
              go_wp2_with fail
              go_meet
              exact ⟨o2, bv2, HC4, hid ((HKP2.out.below (below_drew (Below.refl _ _))).trans K2.out (fun k q => q.elim (fun q => .inl (.inl q)) (fun q => (HO1.out k q).imp .inr id))), hid (fun k q => (S2.out k q).elim (HO1.out k) (fun q => .inr (Nat.le_trans HKP2.out.size q)))⟩
            case rest =>
              obtain ⟨o2, bv2, HC, HKP, HO2⟩ := hcut
              clear HC2 HKP2 HO1 HCC HW a0 a1 n5
              have t22 := beq_i n.kind 22 q hq
              have HT22 := hid t22
              clear t22
              go_upto_region 8 with fail
              have t22 := HT22.out
              refine wp_region_until [19, 20, 21] (S := (fun w' => w'.cell? ⟨b, 0, none⟩ = some (.slice A1 xs.length c1) ∧ w'.cell? ⟨b, 1, none⟩ = some (.slice A2 ys.length c2) ∧ w'.cell? ⟨G.a, 0, none⟩ = some (.slice (some ⟨G.g, 0, none⟩) G.l.length G.cap) ∧ w'.cell? ⟨G.g, k * 6, none⟩ = some (.int .i64 n.kind))) (by kernel_rfl) ((HC.out.below (below_drew (Below.refl _ _))).S HNN.out) ?_
              intro hS
              have HC := hid (HC.out.below (below_drew (Below.refl _ _)))
              have HKP := hid (HKP.out.below (below_drew (Below.refl _ _)))
              generalize World.drew _ = X0 at *
              refine wpAnyU_take (i := 0) (v := (.pointer (some ⟨b, 0, none⟩))) rfl (by kernel_rfl) (fun _ _ _ h => h) (leads_of [[19], [20], [21]] (by kernel_rfl)) (by kernel_rfl) (by kernel_rfl) (by kernel_rfl) (Or.inl ⟨by rfl, ?_⟩) hS ?_
              · intro w' hS'
                obtain ⟨s0, s1, s2, s3⟩ := hS'
                go_simp
              change wpAnyU _ _ _ _ _ _ _ _ (Act.put _ (some 46) _) _
              simp only [Act.put, List.setIfInBounds_toArray, List.set_cons_succ, List.set_cons_zero]
              refine wpAnyU_take (i := 1) (v := (.slice A1 xs.length c1)) rfl (by kernel_rfl) (fun _ _ _ h => h) (leads_of [[19], [20], [21]] (by kernel_rfl)) (by kernel_rfl) (by kernel_rfl) (by kernel_rfl) (Or.inl ⟨by rfl, ?_⟩) hS ?_
              · intro w' hS'
                obtain ⟨s0, s1, s2, s3⟩ := hS'
                go_simp
              change wpAnyU _ _ _ _ _ _ _ _ (Act.put _ (some 47) _) _
              simp only [Act.put, List.setIfInBounds_toArray, List.set_cons_succ, List.set_cons_zero]
              refine wpAnyU_take (i := 2) (v := (.string s)) rfl (by kernel_rfl) (fun _ _ _ h => h) (leads_of [[19], [20], [21]] (by kernel_rfl)) (by kernel_rfl) (by kernel_rfl) (by kernel_rfl) (Or.inl ⟨by rfl, ?_⟩) hS ?_
              · intro w' hS'
                obtain ⟨s0, s1, s2, s3⟩ := hS'
                go_simp
              change wpAnyU _ _ _ _ _ _ _ _ (Act.put _ (some 48) _) _
              simp only [Act.put, List.setIfInBounds_toArray, List.set_cons_succ, List.set_cons_zero]
              refine wpAnyU_take (i := 5) (v := (.pointer (some ⟨b, 1, none⟩))) rfl (by kernel_rfl) (fun _ _ _ h => h) (leads_of [[19], [20], [21]] (by kernel_rfl)) (by kernel_rfl) (by kernel_rfl) (by kernel_rfl) (Or.inl ⟨by rfl, ?_⟩) hS ?_
              · intro w' hS'
                obtain ⟨s0, s1, s2, s3⟩ := hS'
                go_simp
              change wpAnyU _ _ _ _ _ _ _ _ (Act.put _ (some 51) _) _
              simp only [Act.put, List.setIfInBounds_toArray, List.set_cons_succ, List.set_cons_zero]
              refine wpAnyU_take (i := 6) (v := (.slice A2 ys.length c2)) rfl (by kernel_rfl) (fun _ _ _ h => h) (leads_of [[19], [20], [21]] (by kernel_rfl)) (by kernel_rfl) (by kernel_rfl) (by kernel_rfl) (Or.inl ⟨by rfl, ?_⟩) hS ?_
              · intro w' hS'
                obtain ⟨s0, s1, s2, s3⟩ := hS'
                go_simp
              change wpAnyU _ _ _ _ _ _ _ _ (Act.put _ (some 52) _) _
              simp only [Act.put, List.setIfInBounds_toArray, List.set_cons_succ, List.set_cons_zero]
              refine wpAnyU_take (i := 7) (v := (.pointer (some ⟨G.a, 0, none⟩))) rfl (by kernel_rfl) (fun _ _ _ h => h) (leads_of [[8, 9, 10, 12, 13, 14, 15, 16, 17, 19], [8, 9, 10, 12, 13, 14, 15, 16, 17, 20], [8, 9, 10, 12, 13, 14, 15, 16, 17, 21]] (by kernel_rfl)) (by kernel_rfl) (by kernel_rfl) (by kernel_rfl) (Or.inl ⟨by rfl, ?_⟩) hS ?_
              · intro w' hS'
                obtain ⟨s0, s1, s2, s3⟩ := hS'
                go_simp
              change wpAnyU _ _ _ _ _ _ _ _ (Act.put _ (some 53) _) _
              simp only [Act.put, List.setIfInBounds_toArray, List.set_cons_succ, List.set_cons_zero]
              refine wpAnyU_take (i := 8) (v := (.pointer (some ⟨G.a, 0, none⟩))) rfl (by kernel_rfl) (fun _ _ _ h => h) (leads_of [[9, 10, 12, 13, 14, 15, 16, 17, 19], [9, 10, 12, 13, 14, 15, 16, 17, 20], [9, 10, 12, 13, 14, 15, 16, 17, 21]] (by kernel_rfl)) (by kernel_rfl) (by kernel_rfl) (by kernel_rfl) (Or.inl ⟨by rfl, ?_⟩) hS ?_
              · intro w' hS'
                obtain ⟨s0, s1, s2, s3⟩ := hS'
                go_simp
              change wpAnyU _ _ _ _ _ _ _ _ (Act.put _ (some 54) _) _
              simp only [Act.put, List.setIfInBounds_toArray, List.set_cons_succ, List.set_cons_zero]
              refine wpAnyU_take (i := 9) (v := (.pointer (some ⟨G.a, 0, none⟩))) rfl (by kernel_rfl) (fun _ _ _ h => h) (leads_of [[10, 12, 13, 14, 15, 16, 17, 19], [10, 12, 13, 14, 15, 16, 17, 20], [10, 12, 13, 14, 15, 16, 17, 21]] (by kernel_rfl)) (by kernel_rfl) (by kernel_rfl) (by kernel_rfl) (Or.inl ⟨by rfl, ?_⟩) hS ?_
              · intro w' hS'
                obtain ⟨s0, s1, s2, s3⟩ := hS'
                go_simp
              change wpAnyU _ _ _ _ _ _ _ _ (Act.put _ (some 55) _) _
              simp only [Act.put, List.setIfInBounds_toArray, List.set_cons_succ, List.set_cons_zero]
              refine wpAnyU_take (i := 10) (v := (.slice (some ⟨G.g, 0, none⟩) G.l.length G.cap)) rfl (by kernel_rfl) (fun _ _ _ h => h) (leads_of [[12, 13, 14, 15, 16, 17, 19], [12, 13, 14, 15, 16, 17, 20], [12, 13, 14, 15, 16, 17, 21]] (by kernel_rfl)) (by kernel_rfl) (by kernel_rfl) (by kernel_rfl) (Or.inl ⟨by rfl, ?_⟩) hS ?_
              · intro w' hS'
                obtain ⟨s0, s1, s2, s3⟩ := hS'
                go_simp
              change wpAnyU _ _ _ _ _ _ _ _ (Act.put _ (some 56) _) _
              simp only [Act.put, List.setIfInBounds_toArray, List.set_cons_succ, List.set_cons_zero]
              refine wpAnyU_take (i := 11) (v := (.int .i64 (k : Nat))) rfl (by kernel_rfl) (fun _ _ _ h => h) (leads_of [[12, 13, 14, 15, 16, 17, 19], [12, 13, 14, 15, 16, 17, 20], [12, 13, 14, 15, 16, 17, 21]] (by kernel_rfl)) (by kernel_rfl) (by kernel_rfl) (by kernel_rfl) (Or.inl ⟨by rfl, ?_⟩) hS ?_
              · intro w' hS'
                obtain ⟨s0, s1, s2, s3⟩ := hS'
                go_simp
              change wpAnyU _ _ _ _ _ _ _ _ (Act.put _ (some 57) _) _
              simp only [Act.put, List.setIfInBounds_toArray, List.set_cons_succ, List.set_cons_zero]
              refine wpAnyU_take (i := 12) (v := (.pointer (some ⟨G.g, k * 6, none⟩))) rfl (by kernel_rfl) (fun _ _ _ h => h) (leads_of [[13, 14, 15, 16, 17, 19], [13, 14, 15, 16, 17, 20], [13, 14, 15, 16, 17, 21]] (by kernel_rfl)) (by kernel_rfl) (by kernel_rfl) (by kernel_rfl) (Or.inl ⟨by rfl, ?_⟩) hS ?_
              · intro w' hS'
                obtain ⟨s0, s1, s2, s3⟩ := hS'
                go_simp
              change wpAnyU _ _ _ _ _ _ _ _ (Act.put _ (some 58) _) _
              simp only [Act.put, List.setIfInBounds_toArray, List.set_cons_succ, List.set_cons_zero]
              refine wpAnyU_take (i := 13) (v := (.pointer (some ⟨G.g, k * 6, none⟩))) rfl (by kernel_rfl) (fun _ _ _ h => h) (leads_of [[14, 15, 16, 17, 19], [14, 15, 16, 17, 20], [14, 15, 16, 17, 21]] (by kernel_rfl)) (by kernel_rfl) (by kernel_rfl) (by kernel_rfl) (Or.inl ⟨by rfl, ?_⟩) hS ?_
              · intro w' hS'
                obtain ⟨s0, s1, s2, s3⟩ := hS'
                go_simp
              change wpAnyU _ _ _ _ _ _ _ _ (Act.put _ (some 59) _) _
              simp only [Act.put, List.setIfInBounds_toArray, List.set_cons_succ, List.set_cons_zero]
              refine wpAnyU_take (i := 14) (v := (.int .i64 n.kind)) rfl (by kernel_rfl) (fun _ _ _ h => h) (leads_of [[15, 16, 17, 19], [15, 16, 17, 20], [15, 16, 17, 21]] (by kernel_rfl)) (by kernel_rfl) (by kernel_rfl) (by kernel_rfl) (Or.inl ⟨by rfl, ?_⟩) hS ?_
              · intro w' hS'
                obtain ⟨s0, s1, s2, s3⟩ := hS'
                go_simp
              change wpAnyU _ _ _ _ _ _ _ _ (Act.put _ (some 60) _) _
              simp only [Act.put, List.setIfInBounds_toArray, List.set_cons_succ, List.set_cons_zero]
              refine wpAnyU_take (i := 15) (v := (.bool q)) rfl (by kernel_rfl) (fun _ _ _ h => h) (leads_of [[16, 17, 19], [16, 17, 20], [16, 17, 21]] (by kernel_rfl)) (by kernel_rfl) (by kernel_rfl) (by kernel_rfl) (Or.inl ⟨by rfl, ?_⟩) hS ?_
              · intro w' hS'
                obtain ⟨s0, s1, s2, s3⟩ := hS'
                go_simp
              change wpAnyU _ _ _ _ _ _ _ _ (Act.put _ (some 61) _) _
              simp only [Act.put, List.setIfInBounds_toArray, List.set_cons_succ, List.set_cons_zero]
              refine wpAnyU_all (rs := [3, 16]) (by kernel_rfl) (by simp) ?_
              intro j1 hj1
              simp only [List.mem_cons, List.not_mem_nil, or_false] at hj1
              rcases hj1 with rfl | rfl
              · refine wpOp_shut rfl (fun K' HK => ?_)
                go_simp
                have hB := (Below.refl X0.heap.size X0).alloc (Nat.le_refl _) (.cells #[.string s] 9)
                have hz : (X0.alloc (.cells #[.string s] 9)).heap.size = X0.heap.size + 1 := by simp
                have HF1 := hid (textF X0 s)
                have HG1 := hid (show (Value.slice A1 xs.length c1).ownBlock ≠ some X0.heap.size from fun e => by have := (HC.out.os.2 _ e).2; omega)
                generalize X0.alloc (.cells #[.string s] 9) = X1 at *
                have YX1 := hid hz
                have HC := hid (HC.out.below hB)
                have HKP := hid (HKP.out.below hB)
                clear hB hz
                have hS := HC.out.S HNN.out
                refine HK.out _ _ ⟨.inr hS, ?_⟩
                clear HK K'
                try simp only [Act.put, List.setIfInBounds_toArray, List.set_cons_succ, List.set_cons_zero]
                refine wpAnyU_all (rs := [4, 16]) (by kernel_rfl) (by simp) ?_
                intro j1 hj1
                simp only [List.mem_cons, List.not_mem_nil, or_false] at hj1
                rcases hj1 with rfl | rfl
                · refine wpOp_shut rfl (fun K' HK => ?_)
                  refine SC.step1 ?w1 (.tmp 47) (.tmp 49) ?h1 HC.out HKP.out.size ?m1 ?s1 ?x1 HF1.out HG1.out ?_
                  case w1 => rfl
                  case h1 => rfl
                  case s1 => rfl
                  case x1 => rfl
                  case m1 => have := HL.out; omega
                  intro v' X2 hC hg
                  obtain ⟨A3, c3, ev⟩ := hC.os.slice
                  rw [List.length_append, List.length_singleton] at ev
                  subst ev
                  have HKP := hid (HKP.out.trans (Kp.grown hg (fun k q => q)) (fun k q => .inr (HC.out.os.2 k q).1))
                  have HC := hid hC
                  clear hC hg
                  have hS := HC.out.S HNN.out
                  refine HK.out _ _ ⟨.inr hS, ?_⟩
                  clear HK K'
                  change wpAnyU _ _ _ _ _ _ _ _ (Act.put _ (some 50) _) _
                  simp only [Act.put, List.setIfInBounds_toArray, List.set_cons_succ, List.set_cons_zero]
                  refine wpAnyU_take (i := 18) (v := (.pointer (some ⟨b, 0, none⟩))) rfl (by kernel_rfl) (fun _ _ _ h => h) (leads_of [[19], [20], [21]] (by kernel_rfl)) (by kernel_rfl) (by kernel_rfl) (by kernel_rfl) (Or.inl ⟨by rfl, ?_⟩) hS ?_
                  · intro w' hS'
                    obtain ⟨s0, s1, s2, s3⟩ := hS'
                    go_simp
                  change wpAnyU _ _ _ _ _ _ _ _ (Act.put _ (some 64) _) _
                  simp only [Act.put, List.setIfInBounds_toArray, List.set_cons_succ, List.set_cons_zero]
                  refine wpAnyU_all (rs := [16]) (by kernel_rfl) (by simp) ?_
                  intro j1 hj1
                  obtain rfl := List.mem_singleton.1 hj1
                  clear hj1
                  refine wpOp_shut rfl (fun K' HK => ?_)
                  go_simp
                  have hB := (Below.refl X2.heap.size X2).alloc (Nat.le_refl _) (.cells #[.bool q] 4)
                  have hz : (X2.alloc (.cells #[.bool q] 4)).heap.size = X2.heap.size + 1 := by simp
                  have HF2 := hid (boolF X2 q)
                  have HG2 := hid (show (Value.slice A2 ys.length c2).ownBlock ≠ some X2.heap.size from fun e => by have := (HC.out.ob.2 _ e).2; omega)
                  generalize X2.alloc (.cells #[.bool q] 4) = X3 at *
                  have YX3 := hid hz
                  have HC := hid (HC.out.below hB)
                  have HKP := hid (HKP.out.below hB)
                  clear hB hz
                  have hS := HC.out.S HNN.out
                  refine HK.out _ _ ⟨.inr hS, ?_⟩
                  clear HK K'
                  try simp only [Act.put, List.setIfInBounds_toArray, List.set_cons_succ, List.set_cons_zero]
                  refine wpAnyU_all (rs := [17]) (by kernel_rfl) (by simp) ?_
                  intro j1 hj1
                  obtain rfl := List.mem_singleton.1 hj1
                  clear hj1
                  refine wpOp_shut rfl (fun K' HK => ?_)
                  refine SC.step2 ?w1 (.tmp 52) (.tmp 62) ?h1 HC.out HKP.out.size ?m1 ?s1 ?x1 HF2.out HG2.out ?_
                  case w1 => rfl
                  case h1 => rfl
                  case s1 => rfl
                  case x1 => rfl
                  case m1 => have := HL.out; omega
                  intro v' X4 hC hg
                  obtain ⟨A4, c4, ev⟩ := hC.ob.slice
                  rw [List.length_append, List.length_singleton] at ev
                  subst ev
                  have HKP := hid (HKP.out.trans (Kp.grown hg (fun k q => q)) (fun k q => .inr (HC.out.ob.2 k q).1))
                  have HC := hid hC
                  clear hC hg
                  have hS := HC.out.S HNN.out
                  refine HK.out _ _ ⟨.inr hS, ?_⟩
                  clear HK K'
                  change wpAnyU _ _ _ _ _ _ _ _ (Act.put _ (some 63) _) _
                  simp only [Act.put, List.setIfInBounds_toArray, List.set_cons_succ, List.set_cons_zero]
                  have d0 := HC.out.c0
                  have d1 := HC.out.c1
                  have f0 := HC.out.f 0
                  have f1 := HC.out.f 1
                  refine wpAnyU_all (rs := [19]) (by kernel_rfl) (by simp) ?_
                  intro j hj
                  obtain rfl := List.mem_singleton.1 hj
                  clear hj
                  refine wpOp_shut rfl (fun K' HK => ?_)
                  go_simp
                  refine HK.out _ _ ⟨.inl (by decide), ?_⟩
                  clear HK K'
                  try simp only [Act.put, List.setIfInBounds_toArray, List.set_cons_succ, List.set_cons_zero]
                  refine wpAnyU_all (rs := [20]) (by kernel_rfl) (by simp) ?_
                  intro j hj
                  obtain rfl := List.mem_singleton.1 hj
                  clear hj
                  refine wpOp_shut rfl (fun K' HK => ?_)
                  go_simp
                  refine HK.out _ _ ⟨.inl (by decide), ?_⟩
                  clear HK K'
                  try simp only [Act.put, List.setIfInBounds_toArray, List.set_cons_succ, List.set_cons_zero]
                  refine wpAnyU_all (rs := [21]) (by kernel_rfl) (by simp) ?_
                  intro j hj
                  obtain rfl := List.mem_singleton.1 hj
                  clear hj
                  refine wpOp_shut rfl (fun K' HK => ?_)
                  go_simp
                  refine HK.out _ _ ⟨.inl (by decide), ?_⟩
                  clear HK K'
                  try simp only [Act.put, List.setIfInBounds_toArray, List.set_cons_succ, List.set_cons_zero]
                  refine wpAnyU_done (by kernel_rfl) ?_ _
                  have hset : Kp (fun k => k = b) X4 ((X4.setCell ⟨b, 0, none⟩ (.slice A3 (xs.length + 1) c3)).setCell ⟨b, 1, none⟩ (.slice A4 (ys.length + 1) c4)) := (Kp.set (K := fun k => k = b) (p := ⟨b, 0, none⟩) _ rfl).trans (Kp.set (K := fun k => k = b) (p := ⟨b, 1, none⟩) _ rfl) (fun _ q => .inl q)
                  have HSET := hid hset
                  have HP := hid HC.out.put
                  have HLS := hid (show (xs ++ [s]).length = (ys ++ [q]).length by have := HL.out; simp; omega)
                  have HLE := hid HC.out.le
                  clear d0 d1 f0 f1 hset
                  go_wp2_with fail
                  go_roundw
                  case rel => exact ⟨j + 1, _, _, xs ++ [s], ys ++ [q], T2, o2, bv2, by omega, by go_num, HP, HLS, HR3, hid (HKP.out.trans HSET.out (fun k e => .inr (by have := HLE.out; omega))), HO2⟩
                  case measure => simp [RowKit.intOf]; omega
                · refine wpOp_shut rfl (fun K' HK => ?_)
                  go_simp
                  have hB := (Below.refl X1.heap.size X1).alloc (Nat.le_refl _) (.cells #[.bool q] 4)
                  have hz : (X1.alloc (.cells #[.bool q] 4)).heap.size = X1.heap.size + 1 := by simp
                  have HF2 := hid (boolF X1 q)
                  have HG2 := hid (show (Value.slice A2 ys.length c2).ownBlock ≠ some X1.heap.size from fun e => by have := (HC.out.ob.2 _ e).2; omega)
                  have HG12 := hid (show (Value.slice A1 xs.length c1).ownBlock ≠ some X1.heap.size from fun e => by have := (HC.out.os.2 _ e).2; omega)
                  generalize X1.alloc (.cells #[.bool q] 4) = X2 at *
                  have YX2 := hid hz
                  have HC := hid (HC.out.below hB)
                  have HKP := hid (HKP.out.below hB)
                  have HF1 := hid (Kd.F_below HF1.out hB)
                  clear hB hz
                  have hS := HC.out.S HNN.out
                  refine HK.out _ _ ⟨.inr hS, ?_⟩
                  clear HK K'
                  try simp only [Act.put, List.setIfInBounds_toArray, List.set_cons_succ, List.set_cons_zero]
                  refine wpAnyU_all (rs := [4]) (by kernel_rfl) (by simp) ?_
                  intro j1 hj1
                  obtain rfl := List.mem_singleton.1 hj1
                  clear hj1
                  refine wpOp_shut rfl (fun K' HK => ?_)
                  refine SC.step1 ?w1 (.tmp 47) (.tmp 49) ?h1 HC.out HKP.out.size ?m1 ?s1 ?x1 HF1.out HG1.out ?_
                  case w1 => rfl
                  case h1 => rfl
                  case s1 => rfl
                  case x1 => rfl
                  case m1 => have := HL.out; omega
                  intro v' X3 hC hg
                  obtain ⟨A3, c3, ev⟩ := hC.os.slice
                  rw [List.length_append, List.length_singleton] at ev
                  subst ev
                  have HKP := hid (HKP.out.trans (Kp.grown hg (fun k q => q)) (fun k q => .inr (HC.out.os.2 k q).1))
                  have HF2 := hid (Kd.F_step HF2.out (W1 := X3) (fun j hj hlt => hg.block j hlt (fun e => HG12.out (by rw [← e, hj]))))
                  have HC := hid hC
                  clear hC hg
                  have hS := HC.out.S HNN.out
                  refine HK.out _ _ ⟨.inr hS, ?_⟩
                  clear HK K'
                  change wpAnyU _ _ _ _ _ _ _ _ (Act.put _ (some 50) _) _
                  simp only [Act.put, List.setIfInBounds_toArray, List.set_cons_succ, List.set_cons_zero]
                  refine wpAnyU_take (i := 18) (v := (.pointer (some ⟨b, 0, none⟩))) rfl (by kernel_rfl) (fun _ _ _ h => h) (leads_of [[19], [20], [21]] (by kernel_rfl)) (by kernel_rfl) (by kernel_rfl) (by kernel_rfl) (Or.inl ⟨by rfl, ?_⟩) hS ?_
                  · intro w' hS'
                    obtain ⟨s0, s1, s2, s3⟩ := hS'
                    go_simp
                  change wpAnyU _ _ _ _ _ _ _ _ (Act.put _ (some 64) _) _
                  simp only [Act.put, List.setIfInBounds_toArray, List.set_cons_succ, List.set_cons_zero]
                  refine wpAnyU_all (rs := [17]) (by kernel_rfl) (by simp) ?_
                  intro j1 hj1
                  obtain rfl := List.mem_singleton.1 hj1
                  clear hj1
                  refine wpOp_shut rfl (fun K' HK => ?_)
                  refine SC.step2 ?w1 (.tmp 52) (.tmp 62) ?h1 HC.out HKP.out.size ?m1 ?s1 ?x1 HF2.out HG2.out ?_
                  case w1 => rfl
                  case h1 => rfl
                  case s1 => rfl
                  case x1 => rfl
                  case m1 => have := HL.out; omega
                  intro v' X4 hC hg
                  obtain ⟨A4, c4, ev⟩ := hC.ob.slice
                  rw [List.length_append, List.length_singleton] at ev
                  subst ev
                  have HKP := hid (HKP.out.trans (Kp.grown hg (fun k q => q)) (fun k q => .inr (HC.out.ob.2 k q).1))
                  have HC := hid hC
                  clear hC hg
                  have hS := HC.out.S HNN.out
                  refine HK.out _ _ ⟨.inr hS, ?_⟩
                  clear HK K'
                  change wpAnyU _ _ _ _ _ _ _ _ (Act.put _ (some 63) _) _
                  simp only [Act.put, List.setIfInBounds_toArray, List.set_cons_succ, List.set_cons_zero]
                  have d0 := HC.out.c0
                  have d1 := HC.out.c1
                  have f0 := HC.out.f 0
                  have f1 := HC.out.f 1
                  refine wpAnyU_all (rs := [19]) (by kernel_rfl) (by simp) ?_
                  intro j hj
                  obtain rfl := List.mem_singleton.1 hj
                  clear hj
                  refine wpOp_shut rfl (fun K' HK => ?_)
                  go_simp
                  refine HK.out _ _ ⟨.inl (by decide), ?_⟩
                  clear HK K'
                  try simp only [Act.put, List.setIfInBounds_toArray, List.set_cons_succ, List.set_cons_zero]
                  refine wpAnyU_all (rs := [20]) (by kernel_rfl) (by simp) ?_
                  intro j hj
                  obtain rfl := List.mem_singleton.1 hj
                  clear hj
                  refine wpOp_shut rfl (fun K' HK => ?_)
                  go_simp
                  refine HK.out _ _ ⟨.inl (by decide), ?_⟩
                  clear HK K'
                  try simp only [Act.put, List.setIfInBounds_toArray, List.set_cons_succ, List.set_cons_zero]
                  refine wpAnyU_all (rs := [21]) (by kernel_rfl) (by simp) ?_
                  intro j hj
                  obtain rfl := List.mem_singleton.1 hj
                  clear hj
                  refine wpOp_shut rfl (fun K' HK => ?_)
                  go_simp
                  refine HK.out _ _ ⟨.inl (by decide), ?_⟩
                  clear HK K'
                  try simp only [Act.put, List.setIfInBounds_toArray, List.set_cons_succ, List.set_cons_zero]
                  refine wpAnyU_done (by kernel_rfl) ?_ _
                  have hset : Kp (fun k => k = b) X4 ((X4.setCell ⟨b, 0, none⟩ (.slice A3 (xs.length + 1) c3)).setCell ⟨b, 1, none⟩ (.slice A4 (ys.length + 1) c4)) := (Kp.set (K := fun k => k = b) (p := ⟨b, 0, none⟩) _ rfl).trans (Kp.set (K := fun k => k = b) (p := ⟨b, 1, none⟩) _ rfl) (fun _ q => .inl q)
                  have HSET := hid hset
                  have HP := hid HC.out.put
                  have HLS := hid (show (xs ++ [s]).length = (ys ++ [q]).length by have := HL.out; simp; omega)
                  have HLE := hid HC.out.le
                  clear d0 d1 f0 f1 hset
                  go_wp2_with fail
                  go_roundw
                  case rel => exact ⟨j + 1, _, _, xs ++ [s], ys ++ [q], T2, o2, bv2, by omega, by go_num, HP, HLS, HR3, hid (HKP.out.trans HSET.out (fun k e => .inr (by have := HLE.out; omega))), HO2⟩
                  case measure => simp [RowKit.intOf]; omega
              · refine wpOp_shut rfl (fun K' HK => ?_)
                go_simp
                have hB := (Below.refl X0.heap.size X0).alloc (Nat.le_refl _) (.cells #[.bool q] 4)
                have hz : (X0.alloc (.cells #[.bool q] 4)).heap.size = X0.heap.size + 1 := by simp
                have HF2 := hid (boolF X0 q)
                have HG2 := hid (show (Value.slice A2 ys.length c2).ownBlock ≠ some X0.heap.size from fun e => by have := (HC.out.ob.2 _ e).2; omega)
                have HG12 := hid (show (Value.slice A1 xs.length c1).ownBlock ≠ some X0.heap.size from fun e => by have := (HC.out.os.2 _ e).2; omega)
                generalize X0.alloc (.cells #[.bool q] 4) = X1 at *
                have YX1 := hid hz
                have HC := hid (HC.out.below hB)
                have HKP := hid (HKP.out.below hB)
                clear hB hz
                have hS := HC.out.S HNN.out
                refine HK.out _ _ ⟨.inr hS, ?_⟩
                clear HK K'
                try simp only [Act.put, List.setIfInBounds_toArray, List.set_cons_succ, List.set_cons_zero]
                refine wpAnyU_all (rs := [3]) (by kernel_rfl) (by simp) ?_
                intro j1 hj1
                obtain rfl := List.mem_singleton.1 hj1
                clear hj1
                refine wpOp_shut rfl (fun K' HK => ?_)
                go_simp
                have hB := (Below.refl X1.heap.size X1).alloc (Nat.le_refl _) (.cells #[.string s] 9)
                have hz : (X1.alloc (.cells #[.string s] 9)).heap.size = X1.heap.size + 1 := by simp
                have HF1 := hid (textF X1 s)
                have HG1 := hid (show (Value.slice A1 xs.length c1).ownBlock ≠ some X1.heap.size from fun e => by have := (HC.out.os.2 _ e).2; omega)
                generalize X1.alloc (.cells #[.string s] 9) = X2 at *
                have YX2 := hid hz
                have HC := hid (HC.out.below hB)
                have HKP := hid (HKP.out.below hB)
                have HF2 := hid (Kd.F_below HF2.out hB)
                clear hB hz
                have hS := HC.out.S HNN.out
                refine HK.out _ _ ⟨.inr hS, ?_⟩
                clear HK K'
                try simp only [Act.put, List.setIfInBounds_toArray, List.set_cons_succ, List.set_cons_zero]
                refine wpAnyU_all (rs := [4]) (by kernel_rfl) (by simp) ?_
                intro j1 hj1
                obtain rfl := List.mem_singleton.1 hj1
                clear hj1
                refine wpOp_shut rfl (fun K' HK => ?_)
                refine SC.step1 ?w1 (.tmp 47) (.tmp 49) ?h1 HC.out HKP.out.size ?m1 ?s1 ?x1 HF1.out HG1.out ?_
                case w1 => rfl
                case h1 => rfl
                case s1 => rfl
                case x1 => rfl
                case m1 => have := HL.out; omega
                intro v' X3 hC hg
                obtain ⟨A3, c3, ev⟩ := hC.os.slice
                rw [List.length_append, List.length_singleton] at ev
                subst ev
                have HKP := hid (HKP.out.trans (Kp.grown hg (fun k q => q)) (fun k q => .inr (HC.out.os.2 k q).1))
                have HF2 := hid (Kd.F_step HF2.out (W1 := X3) (fun j hj hlt => hg.block j hlt (fun e => HG12.out (by rw [← e, hj]))))
                have HC := hid hC
                clear hC hg
                have hS := HC.out.S HNN.out
                refine HK.out _ _ ⟨.inr hS, ?_⟩
                clear HK K'
                change wpAnyU _ _ _ _ _ _ _ _ (Act.put _ (some 50) _) _
                simp only [Act.put, List.setIfInBounds_toArray, List.set_cons_succ, List.set_cons_zero]
                refine wpAnyU_take (i := 18) (v := (.pointer (some ⟨b, 0, none⟩))) rfl (by kernel_rfl) (fun _ _ _ h => h) (leads_of [[19], [20], [21]] (by kernel_rfl)) (by kernel_rfl) (by kernel_rfl) (by kernel_rfl) (Or.inl ⟨by rfl, ?_⟩) hS ?_
                · intro w' hS'
                  obtain ⟨s0, s1, s2, s3⟩ := hS'
                  go_simp
                change wpAnyU _ _ _ _ _ _ _ _ (Act.put _ (some 64) _) _
                simp only [Act.put, List.setIfInBounds_toArray, List.set_cons_succ, List.set_cons_zero]
                refine wpAnyU_all (rs := [17]) (by kernel_rfl) (by simp) ?_
                intro j1 hj1
                obtain rfl := List.mem_singleton.1 hj1
                clear hj1
                refine wpOp_shut rfl (fun K' HK => ?_)
                refine SC.step2 ?w1 (.tmp 52) (.tmp 62) ?h1 HC.out HKP.out.size ?m1 ?s1 ?x1 HF2.out HG2.out ?_
                case w1 => rfl
                case h1 => rfl
                case s1 => rfl
                case x1 => rfl
                case m1 => have := HL.out; omega
                intro v' X4 hC hg
                obtain ⟨A4, c4, ev⟩ := hC.ob.slice
                rw [List.length_append, List.length_singleton] at ev
                subst ev
                have HKP := hid (HKP.out.trans (Kp.grown hg (fun k q => q)) (fun k q => .inr (HC.out.ob.2 k q).1))
                have HC := hid hC
                clear hC hg
                have hS := HC.out.S HNN.out
                refine HK.out _ _ ⟨.inr hS, ?_⟩
                clear HK K'
                change wpAnyU _ _ _ _ _ _ _ _ (Act.put _ (some 63) _) _
                simp only [Act.put, List.setIfInBounds_toArray, List.set_cons_succ, List.set_cons_zero]
                have d0 := HC.out.c0
                have d1 := HC.out.c1
                have f0 := HC.out.f 0
                have f1 := HC.out.f 1
                refine wpAnyU_all (rs := [19]) (by kernel_rfl) (by simp) ?_
                intro j hj
                obtain rfl := List.mem_singleton.1 hj
                clear hj
                refine wpOp_shut rfl (fun K' HK => ?_)
                go_simp
                refine HK.out _ _ ⟨.inl (by decide), ?_⟩
                clear HK K'
                try simp only [Act.put, List.setIfInBounds_toArray, List.set_cons_succ, List.set_cons_zero]
                refine wpAnyU_all (rs := [20]) (by kernel_rfl) (by simp) ?_
                intro j hj
                obtain rfl := List.mem_singleton.1 hj
                clear hj
                refine wpOp_shut rfl (fun K' HK => ?_)
                go_simp
                refine HK.out _ _ ⟨.inl (by decide), ?_⟩
                clear HK K'
                try simp only [Act.put, List.setIfInBounds_toArray, List.set_cons_succ, List.set_cons_zero]
                refine wpAnyU_all (rs := [21]) (by kernel_rfl) (by simp) ?_
                intro j hj
                obtain rfl := List.mem_singleton.1 hj
                clear hj
                refine wpOp_shut rfl (fun K' HK => ?_)
                go_simp
                refine HK.out _ _ ⟨.inl (by decide), ?_⟩
                clear HK K'
                try simp only [Act.put, List.setIfInBounds_toArray, List.set_cons_succ, List.set_cons_zero]
                refine wpAnyU_done (by kernel_rfl) ?_ _
                have hset : Kp (fun k => k = b) X4 ((X4.setCell ⟨b, 0, none⟩ (.slice A3 (xs.length + 1) c3)).setCell ⟨b, 1, none⟩ (.slice A4 (ys.length + 1) c4)) := (Kp.set (K := fun k => k = b) (p := ⟨b, 0, none⟩) _ rfl).trans (Kp.set (K := fun k => k = b) (p := ⟨b, 1, none⟩) _ rfl) (fun _ q => .inl q)
                have HSET := hid hset
                have HP := hid HC.out.put
                have HLS := hid (show (xs ++ [s]).length = (ys ++ [q]).length by have := HL.out; simp; omega)
                have HLE := hid HC.out.le
                clear d0 d1 f0 f1 hset
                go_wp2_with fail
                go_roundw
                case rel => exact ⟨j + 1, _, _, xs ++ [s], ys ++ [q], T2, o2, bv2, by omega, by go_num, HP, HLS, HR3, hid (HKP.out.trans HSET.out (fun k e => .inr (by have := HLE.out; omega))), HO2⟩
                case measure => simp [RowKit.intOf]; omega
          · cases hr
      · obtain rfl : j = ks.length := by omega
        have hr := HR.out
        rw [List.drop_length] at hr
        have hr2 := Option.some.inj hr
        injection hr2 with e1 e2
        subst e1
        subst e2
        obtain ⟨A1, c1, ev⟩ := HC.out.os.slice
        subst ev
        obtain ⟨A2, c2, ev⟩ := HC.out.ob.slice
        subst ev
        have hz := HLO.out
        have hres := HKP.out.heap (g := w.heap.size) HR0.out (fun q => q.elim (fun q => by omega) (fun q => by have := hz.2.2.2.2.1 _ q; omega))
        have q0 := (cell_of_row _ _ 0 _ _ _ hres).trans (b := some (Value.slice none 0 0)) rfl
        have q1 := (cell_of_row _ _ 1 _ _ _ hres).trans (b := some (Value.slice none 0 0)) rfl
        have g0 : wr.frozen? ⟨w.heap.size, 0, none⟩ = false := by simp [World.frozen?, hres]
        have g1 : wr.frozen? ⟨w.heap.size, 1, none⟩ = false := by simp [World.frozen?, hres]
        have p0 := HC.out.c0
        have p1 := HC.out.c1
        have HZ := hid hz
        have HRS := hid hres
        clear hr hz hres HR
        go_wp2_with fail
        have hz := HZ.out
        have hrow := blk_put (blk_put HRS.out 0 (.slice A1 xs.length c1) rfl) 1 (.slice A2 ys.length c2) rfl
        have r0 := (cell_of_row _ _ 0 _ _ _ hrow).trans (b := some (Value.slice A1 xs.length c1)) rfl
        have r1 := (cell_of_row _ _ 1 _ _ _ hrow).trans (b := some (Value.slice A2 ys.length c2)) rfl
        have hset : Kp (fun k => k = w.heap.size) wr ((wr.setCell ⟨w.heap.size, 0, none⟩ (.slice A1 xs.length c1)).setCell ⟨w.heap.size, 1, none⟩ (.slice A2 ys.length c2)) := (Kp.set (K := fun k => k = w.heap.size) (p := ⟨w.heap.size, 0, none⟩) _ rfl).trans (Kp.set (K := fun k => k = w.heap.size) (p := ⟨w.heap.size, 1, none⟩) _ rfl) (fun _ q => .inl q)
        refine bodyPost_ret (v := .agg #[.slice A1 xs.length c1, .slice A2 ys.length c2]) ?_ rfl ⟨_, _, rfl, o1, ⟨bv1, HC.out.ei.kp hset ⟨by omega, by omega, by omega⟩ (fun k q => by have := hz.2.2.2.1 k q; omega) (fun k q => (HO1.out k q).elim (fun q => by have := hz.2.2.2.2.1 k q; omega) (fun q => by omega))⟩, ((Kp.of_below (K := EK G okb) HB.out).trans HKP.out (fun _ q => .inl q)).trans hset (fun k q => .inr (Nat.le_of_eq q.symm)), fun k q => (HO1.out k q).imp id (fun q => by omega), (HC.out.os.kp hset (fun k q => by have := (HC.out.os.2 k q).1; omega)).le (by omega), (HC.out.ob.kp hset (fun k q => by have := (HC.out.ob.2 k q).1; omega)).le (by omega), fun k q => q.elim (fun q => (HC.out.d1 k q).1) (fun q => (HC.out.d2 k q).1)⟩
        simp [results, Try.results80, go_sem, r0, r1]
end
end Go.Proofs.Yticbjhicjegfoaa.Q
