/- What a proof further on needs (part i). -/
import Derived.Test.YtibepkblgliooaaKh
set_option linter.unusedVariables false
namespace Go.Proofs.Ytibepkblgliooaa.Q
open Go.RowKit
open Go.Proofs.YtibepkblgliooaaW.PrintWords
section
variable {G : LG} {m : Nat} {w : World} {oko : Nat → Prop} {opv : Value} {S S' : Lk} {k : Nat} {n : Nd} {d : Option ByteArray} {s : ByteArray}
theorem spotLI (h : LI G w oko opv S) (s : ByteArray) : Calls Try.prog 73 #[.pointer (some ⟨G.a, 0, none⟩), .string s] w fun e w' => e = .returned (.agg #[.int .i64 (spotF S.open_ s).depth, .int .i64 (spotF S.open_ s).slot]) ∧ Below w.heap.size w w' := by
  obtain ⟨A, c, rfl⟩ := Kd.N_slice h.opn
  exact spot_c h.c3 h.opn h.nopen.2 h.nopen.1 s
theorem textF (W : World) (s : ByteArray) : Kd.F Kd.string (W.alloc (.cells #[.string s] 9)) (fun k => k = W.heap.size) (some ⟨W.heap.size, 0, none⟩) [s].length [s] := by
  have ho := World.ownsRow_lit (base := W.heap.size) (e := 9) (size := 1) W #[.string s] 1 (Nat.le_refl _) (by decide) rfl
  have hR : Kd.R Kd.string 9 (W.alloc (.cells #[.string s] 9)) W.heap.size (fun j => j = W.heap.size) (.slice (some ⟨W.heap.size, 0, none⟩) 1 1) [s] := by
    refine ⟨fun j hj => by simpa [Value.ownBlock] using hj.symm, [.string s], ho, rfl, fun j p hp => ?_⟩
    rcases j with _ | j
    · simp only [List.getElem?_cons_zero, Option.some.injEq] at hp
      subst hp
      rfl
    · simp at hp
  exact Kd.N_F (Kd.R_N hR)
set_option maxHeartbeats 1600000 in
set_option maxRecDepth 100000 in
theorem look_name (ih : LookOk G m) (h : LI G w oko opv S) (hk : G.l[k]? = some n) (hd : declF G.l k = some d) (hks : k < S.spots.length) (hkd : Box (n.kind = 3)) (hdn : d = none) (hr : some (S.spot k (spotF S.open_ n.text)) = some S') :
    Calls Try.prog 54 #[ptr G.a, .int .i64 k] w fun e w' => e = .returned (.tuple #[]) ∧ LN G w oko w' S' := by
  obtain rfl := Option.some.inj hr
  have hkl : k < G.l.length := (List.getElem?_eq_some_iff.1 hk).1
  have hkl' : (k : Int) < (G.l.length : Int) := by omega
  obtain ⟨A3, c3, A4, c4, hlt, n0, n1, n2, n3, n4, n5, l3, f3, l4, f4⟩ := h.nodes.node hk
  have c0 := h.c0
  have hb1 : Below w.heap.size w (w.alloc (.cells #[.int .i64 n.kind, .int .i64 n.num, .string n.text, .slice A3 n.names.length c3, .slice A4 n.kids.length c4, .int .i64 n.at_] 37)) := (Below.refl _ _).alloc (Nat.le_refl _) _
  have hr1 := heap_alloc_new w (.cells #[.int .i64 n.kind, .int .i64 n.num, .string n.text, .slice A3 n.names.length c3, .slice A4 n.kids.length c4, .int .i64 n.at_] 37)
  have h1 := h.below hb1
  have hdc := decl_c (w := w.alloc (.cells #[.int .i64 n.kind, .int .i64 n.num, .string n.text, .slice A3 n.names.length c3, .slice A4 n.kids.length c4, .int .i64 n.at_] 37)) h1.c0 h1.nodes hd
  have HDC := hid hdc
  have HI0 := hid h
  have HF3 := hid f3
  have HF4 := hid f4
  have HL3 := hid l3
  have HL4 := hid l4
  have H1 := hid h1
  have HB1 := hid hb1
  have HR1 := hid hr1
  have HR := hid hr
  have IH := hid @ih
  clear h f3 f4 l3 l4 h1 hb1 hr1 hdc hr ih hk hlt hd
  unfold ptr at *
  go_enter Try.func54, Try.ntmps54
  go_wp2_with fail
  refine HDC.out.mono ?_
  rintro e w2 ⟨rfl, hb2⟩
  have HI := hid (H1.out.below hb2)
  have HB := hid (HB1.out.trans (hb2.mono HB1.out.size))
  have hrn := (hb2.block w.heap.size (Array.getElem?_eq_some_iff.1 HR1.out).1).trans HR1.out
  have HRN := hid hrn
  have hnbl : w.heap.size < w2.heap.size := (Array.getElem?_eq_some_iff.1 hrn).1
  clear hb2 H1 HB1 HR1 HDC n0 n1 n2 n3 n4 n5 c0 hrn
  have m0 := (cell_of_row _ _ 0 _ _ _ HRN.out).trans (b := some (Value.int .i64 n.kind)) rfl
  have m1 := (cell_of_row _ _ 1 _ _ _ HRN.out).trans (b := some (Value.int .i64 n.num)) rfl
  have m2 := (cell_of_row _ _ 2 _ _ _ HRN.out).trans (b := some (Value.string n.text)) rfl
  have m3 := (cell_of_row _ _ 3 _ _ _ HRN.out).trans (b := some (Value.slice A3 n.names.length c3)) rfl
  have m4 := (cell_of_row _ _ 4 _ _ _ HRN.out).trans (b := some (Value.slice A4 n.kids.length c4)) rfl
  have m5 := (cell_of_row _ _ 5 _ _ _ HRN.out).trans (b := some (Value.int .i64 n.at_)) rfl
  subst hdn
  unfold declV
  have t3 : (n.kind == (3 : Int)) = true := by have := hkd.out; rw [beq_iff_eq]; omega
  have c1 := HI.out.c1
  have hsl : k < S.spots.length := hks
  have c1k0' : w2.cell? ⟨G.b1, k * 2, none⟩ = some (.int .i64 (S.spots[k]'hsl).depth) := (cell_of_row _ _ _ _ _ _ HI.out.sp).trans (by simpa using (spCells_at (List.getElem?_eq_getElem hsl)).1)
  have c1k1' : w2.cell? ⟨G.b1, k * 2 + 1, none⟩ = some (.int .i64 (S.spots[k]'hsl).slot) := (cell_of_row _ _ _ _ _ _ HI.out.sp).trans (by simpa using (spCells_at (List.getElem?_eq_getElem hsl)).2)
  go_upto_region 7 with fail
  refine wp_region_until [10] (S := (fun w' => w'.cell? ⟨G.a, 1, none⟩ = some (.slice (some ⟨G.b1, 0, none⟩) G.l.length G.l.length) ∧ w'.cell? ⟨w.heap.size, 2, none⟩ = some (.string n.text))) (by kernel_rfl) ?_ ?_
  · go_keep
  intro hS
  refine wpAnyU_take (i := 0) (v := (.pointer (some ⟨G.a, 0, none⟩))) rfl (by kernel_rfl) (fun _ _ _ h => h) (leads_of [[10]] (by kernel_rfl)) (by kernel_rfl) (by kernel_rfl) (by kernel_rfl) (Or.inl ⟨by rfl, ?_⟩) hS ?_
  · intro w' hS'
    obtain ⟨s0, s1⟩ := hS'
    go_simp
  change wpAnyU _ _ _ _ _ _ _ _ (Act.put _ (some 38) _) _
  simp only [Act.put, List.setIfInBounds_toArray, List.set_cons_succ, List.set_cons_zero]
  refine wpAnyU_take (i := 1) (v := (.pointer (some ⟨G.a, 0, none⟩))) rfl (by kernel_rfl) (fun _ _ _ h => h) (leads_of [[10]] (by kernel_rfl)) (by kernel_rfl) (by kernel_rfl) (by kernel_rfl) (Or.inl ⟨by rfl, ?_⟩) hS ?_
  · intro w' hS'
    obtain ⟨s0, s1⟩ := hS'
    go_simp
  change wpAnyU _ _ _ _ _ _ _ _ (Act.put _ (some 39) _) _
  simp only [Act.put, List.setIfInBounds_toArray, List.set_cons_succ, List.set_cons_zero]
  refine wpAnyU_take (i := 2) (v := (.pointer (some ⟨G.a, 1, none⟩))) rfl (by kernel_rfl) (fun _ _ _ h => h) (leads_of [[10]] (by kernel_rfl)) (by kernel_rfl) (by kernel_rfl) (by kernel_rfl) (Or.inl ⟨by rfl, ?_⟩) hS ?_
  · intro w' hS'
    obtain ⟨s0, s1⟩ := hS'
    go_simp
  change wpAnyU _ _ _ _ _ _ _ _ (Act.put _ (some 40) _) _
  simp only [Act.put, List.setIfInBounds_toArray, List.set_cons_succ, List.set_cons_zero]
  refine wpAnyU_take (i := 3) (v := (.slice (some ⟨G.b1, 0, none⟩) G.l.length G.l.length)) rfl (by kernel_rfl) (fun _ _ _ h => h) (leads_of [[10]] (by kernel_rfl)) (by kernel_rfl) (by kernel_rfl) (by kernel_rfl) (Or.inl ⟨by rfl, ?_⟩) hS ?_
  · intro w' hS'
    obtain ⟨s0, s1⟩ := hS'
    go_simp
  change wpAnyU _ _ _ _ _ _ _ _ (Act.put _ (some 41) _) _
  simp only [Act.put, List.setIfInBounds_toArray, List.set_cons_succ, List.set_cons_zero]
  refine wpAnyU_take (i := 4) (v := (.int .i64 (k : Nat))) rfl (by kernel_rfl) (fun _ _ _ h => h) (leads_of [[10]] (by kernel_rfl)) (by kernel_rfl) (by kernel_rfl) (by kernel_rfl) (Or.inl ⟨by rfl, ?_⟩) hS ?_
  · intro w' hS'
    obtain ⟨s0, s1⟩ := hS'
    go_simp
  change wpAnyU _ _ _ _ _ _ _ _ (Act.put _ (some 42) _) _
  simp only [Act.put, List.setIfInBounds_toArray, List.set_cons_succ, List.set_cons_zero]
  refine wpAnyU_take (i := 5) (v := (.pointer (some ⟨G.a, 0, none⟩))) rfl (by kernel_rfl) (fun _ _ _ h => h) (leads_of [[10]] (by kernel_rfl)) (by kernel_rfl) (by kernel_rfl) (by kernel_rfl) (Or.inl ⟨by rfl, ?_⟩) hS ?_
  · intro w' hS'
    obtain ⟨s0, s1⟩ := hS'
    go_simp
  change wpAnyU _ _ _ _ _ _ _ _ (Act.put _ (some 43) _) _
  simp only [Act.put, List.setIfInBounds_toArray, List.set_cons_succ, List.set_cons_zero]
  refine wpAnyU_take (i := 6) (v := (.pointer (some ⟨w.heap.size, 2, none⟩))) rfl (by kernel_rfl) (fun _ _ _ h => h) (leads_of [[10]] (by kernel_rfl)) (by kernel_rfl) (by kernel_rfl) (by kernel_rfl) (Or.inl ⟨by rfl, ?_⟩) hS ?_
  · intro w' hS'
    obtain ⟨s0, s1⟩ := hS'
    go_simp
  change wpAnyU _ _ _ _ _ _ _ _ (Act.put _ (some 44) _) _
  simp only [Act.put, List.setIfInBounds_toArray, List.set_cons_succ, List.set_cons_zero]
  refine wpAnyU_take (i := 7) (v := (.string n.text)) rfl (by kernel_rfl) (fun _ _ _ h => h) (leads_of [[10]] (by kernel_rfl)) (by kernel_rfl) (by kernel_rfl) (by kernel_rfl) (Or.inl ⟨by rfl, ?_⟩) hS ?_
  · intro w' hS'
    obtain ⟨s0, s1⟩ := hS'
    go_simp
  change wpAnyU _ _ _ _ _ _ _ _ (Act.put _ (some 45) _) _
  simp only [Act.put, List.setIfInBounds_toArray, List.set_cons_succ, List.set_cons_zero]
  refine wpAnyU_all (rs := [8]) (by kernel_rfl) (by simp) ?_
  intro j hj
  obtain rfl := List.mem_singleton.1 hj
  clear hj
  refine wpOp_shut rfl (fun K' HK => ?_)
  refine step_call rfl (f := 73) rfl Try.func73 (by kernel_rfl) rfl #[(.pointer (some ⟨G.a, 0, none⟩)), (.string n.text)] (by simp only [List.map_toArray, List.map_cons, List.map_nil]; rfl) ?_
  refine (spotLI (HI.out.below (Below.refl _ _).drew) n.text).mono ?_
  rintro e w3 ⟨rfl, hb3'⟩
  refine ⟨_, rfl, ?_⟩
  have HB3 := hid (show Below w2.heap.size w2 w3 from (Below.refl _ _).drew.trans hb3')
  clear hb3'
  have c1k0 := keepc HB3.out c1k0'
  have c1k1 := keepc HB3.out c1k1'
  have fk0 : w3.frozen? ⟨G.b1, k * 2, none⟩ = false := (HI.out.below HB3.out).f1 _
  have fk1 : w3.frozen? ⟨G.b1, k * 2 + 1, none⟩ = false := (HI.out.below HB3.out).f1 _
  refine HK.out _ _ ⟨.inr ?_, ?_⟩
  · exact ⟨keepc HB3.out c1, keepc HB3.out m2⟩
  clear HK K'
  have hS := And.intro (keepc HB3.out c1) (keepc HB3.out m2)
  change wpAnyU _ _ _ _ _ _ _ _ (Act.put _ (some 46) _) _
  simp only [Act.put, List.setIfInBounds_toArray, List.set_cons_succ, List.set_cons_zero]
  refine wpAnyU_take (i := 9) (v := (.pointer (some ⟨G.b1, k * 2, none⟩))) rfl (by kernel_rfl) (fun _ _ _ h => h) (leads_of [[10]] (by kernel_rfl)) (by kernel_rfl) (by kernel_rfl) (by kernel_rfl) (Or.inl ⟨by rfl, ?_⟩) hS ?_
  · intro w' hS'
    obtain ⟨s0, s1⟩ := hS'
    go_simp
  change wpAnyU _ _ _ _ _ _ _ _ (Act.put _ (some 47) _) _
  simp only [Act.put, List.setIfInBounds_toArray, List.set_cons_succ, List.set_cons_zero]
  refine wpAnyU_all (rs := [10]) (by kernel_rfl) (by simp) ?_
  intro j hj
  obtain rfl := List.mem_singleton.1 hj
  clear hj
  refine wpOp_shut rfl (fun K' HK => ?_)
  go_simp
  refine HK.out _ _ ⟨.inl (by decide), ?_⟩
  clear HK K'
  refine wpAnyU_done (by kernel_rfl) ?_ _
  have hset := (HI.out.below HB3.out).setSpot (k := k) (spotF S.open_ n.text)
  have hkp : Kp (LK G oko) w ((w3.setCell ⟨G.b1, k * 2, none⟩ (.int .i64 (spotF S.open_ n.text).depth)).setCell ⟨G.b1, k * 2 + 1, none⟩ (.int .i64 (spotF S.open_ n.text).slot)) := ((Kp.of_below (HB.out.trans (HB3.out.mono HB.out.size))).trans (Kp.set (K := LK G oko) (p := ⟨G.b1, k * 2, none⟩) _ (.inr (.inl rfl))) (fun _ h => .inl h)).trans (Kp.set (K := LK G oko) (p := ⟨G.b1, k * 2 + 1, none⟩) _ (.inr (.inl rfl))) (fun _ h => .inl h)
  go_wp2_with fail
  exact bodyPost_end (results_none rfl _ _ _) rfl ⟨rfl, oko, _, hset, hkp, fun _ h => .inl h⟩
set_option maxHeartbeats 1600000 in
set_option maxRecDepth 100000 in
theorem look_decl (ih : LookOk G m) (h : LI G w oko opv S) (hk : G.l[k]? = some n) (hd : declF G.l k = some d) (hks : k < S.spots.length) (hkd : Box (n.kind = 21 ∨ n.kind = 22 ∨ n.kind = 23)) (hdn : d = some s) (hr : allF (lookF G.l m) n.kids (S.spot k (spotF S.open_ s)) = some S') :
    Calls Try.prog 54 #[ptr G.a, .int .i64 k] w fun e w' => e = .returned (.tuple #[]) ∧ LN G w oko w' S' := by
  have hkl : k < G.l.length := (List.getElem?_eq_some_iff.1 hk).1
  have hkl' : (k : Int) < (G.l.length : Int) := by omega
  obtain ⟨A3, c3, A4, c4, hlt, n0, n1, n2, n3, n4, n5, l3, f3, l4, f4⟩ := h.nodes.node hk
  have c0 := h.c0
  have hb1 : Below w.heap.size w (w.alloc (.cells #[.int .i64 n.kind, .int .i64 n.num, .string n.text, .slice A3 n.names.length c3, .slice A4 n.kids.length c4, .int .i64 n.at_] 37)) := (Below.refl _ _).alloc (Nat.le_refl _) _
  have hr1 := heap_alloc_new w (.cells #[.int .i64 n.kind, .int .i64 n.num, .string n.text, .slice A3 n.names.length c3, .slice A4 n.kids.length c4, .int .i64 n.at_] 37)
  have h1 := h.below hb1
  have hdc := decl_c (w := w.alloc (.cells #[.int .i64 n.kind, .int .i64 n.num, .string n.text, .slice A3 n.names.length c3, .slice A4 n.kids.length c4, .int .i64 n.at_] 37)) h1.c0 h1.nodes hd
  have HDC := hid hdc
  have HI0 := hid h
  have HF3 := hid f3
  have HF4 := hid f4
  have HL3 := hid l3
  have HL4 := hid l4
  have H1 := hid h1
  have HB1 := hid hb1
  have HR1 := hid hr1
  have HR := hid hr
  have IH := hid @ih
  clear h f3 f4 l3 l4 h1 hb1 hr1 hdc hr ih hk hlt hd
  unfold ptr at *
  go_enter Try.func54, Try.ntmps54
  go_wp2_with fail
  refine HDC.out.mono ?_
  rintro e w2 ⟨rfl, hb2⟩
  have HI := hid (H1.out.below hb2)
  have HB := hid (HB1.out.trans (hb2.mono HB1.out.size))
  have hrn := (hb2.block w.heap.size (Array.getElem?_eq_some_iff.1 HR1.out).1).trans HR1.out
  have HRN := hid hrn
  have hnbl : w.heap.size < w2.heap.size := (Array.getElem?_eq_some_iff.1 hrn).1
  clear hb2 H1 HB1 HR1 HDC n0 n1 n2 n3 n4 n5 c0 hrn
  subst hdn
  unfold declV
  have c1 := HI.out.c1
  have hsl : k < S.spots.length := hks
  have c1k0' : w2.cell? ⟨G.b1, k * 2, none⟩ = some (.int .i64 (S.spots[k]'hsl).depth) := (cell_of_row _ _ _ _ _ _ HI.out.sp).trans (by simpa using (spCells_at (List.getElem?_eq_getElem hsl)).1)
  have c1k1' : w2.cell? ⟨G.b1, k * 2 + 1, none⟩ = some (.int .i64 (S.spots[k]'hsl).slot) := (cell_of_row _ _ _ _ _ _ HI.out.sp).trans (by simpa using (spCells_at (List.getElem?_eq_getElem hsl)).2)
  go_upto_region 3 with fail
  refine wp_region_until [9] (S := (fun w' => w'.cell? ⟨G.a, 1, none⟩ = some (.slice (some ⟨G.b1, 0, none⟩) G.l.length G.l.length))) (by kernel_rfl) ?_ ?_
  · go_keep
  intro hS
  refine wpAnyU_take (i := 0) (v := (.pointer (some ⟨G.a, 0, none⟩))) rfl (by kernel_rfl) (fun _ _ _ h => h) (leads_of [[9]] (by kernel_rfl)) (by kernel_rfl) (by kernel_rfl) (by kernel_rfl) (Or.inl ⟨by rfl, ?_⟩) hS ?_
  · intro w' hS'
    have s0 := hS'
    go_simp
  change wpAnyU _ _ _ _ _ _ _ _ (Act.put _ (some 21) _) _
  simp only [Act.put, List.setIfInBounds_toArray, List.set_cons_succ, List.set_cons_zero]
  refine wpAnyU_take (i := 1) (v := (.pointer (some ⟨G.a, 0, none⟩))) rfl (by kernel_rfl) (fun _ _ _ h => h) (leads_of [[9]] (by kernel_rfl)) (by kernel_rfl) (by kernel_rfl) (by kernel_rfl) (Or.inl ⟨by rfl, ?_⟩) hS ?_
  · intro w' hS'
    have s0 := hS'
    go_simp
  change wpAnyU _ _ _ _ _ _ _ _ (Act.put _ (some 22) _) _
  simp only [Act.put, List.setIfInBounds_toArray, List.set_cons_succ, List.set_cons_zero]
  refine wpAnyU_take (i := 2) (v := (.pointer (some ⟨G.a, 1, none⟩))) rfl (by kernel_rfl) (fun _ _ _ h => h) (leads_of [[9]] (by kernel_rfl)) (by kernel_rfl) (by kernel_rfl) (by kernel_rfl) (Or.inl ⟨by rfl, ?_⟩) hS ?_
  · intro w' hS'
    have s0 := hS'
    go_simp
  change wpAnyU _ _ _ _ _ _ _ _ (Act.put _ (some 23) _) _
  simp only [Act.put, List.setIfInBounds_toArray, List.set_cons_succ, List.set_cons_zero]
  refine wpAnyU_take (i := 3) (v := (.slice (some ⟨G.b1, 0, none⟩) G.l.length G.l.length)) rfl (by kernel_rfl) (fun _ _ _ h => h) (leads_of [[9]] (by kernel_rfl)) (by kernel_rfl) (by kernel_rfl) (by kernel_rfl) (Or.inl ⟨by rfl, ?_⟩) hS ?_
  · intro w' hS'
    have s0 := hS'
    go_simp
  change wpAnyU _ _ _ _ _ _ _ _ (Act.put _ (some 24) _) _
  simp only [Act.put, List.setIfInBounds_toArray, List.set_cons_succ, List.set_cons_zero]
  refine wpAnyU_take (i := 4) (v := (.int .i64 (k : Nat))) rfl (by kernel_rfl) (fun _ _ _ h => h) (leads_of [[9]] (by kernel_rfl)) (by kernel_rfl) (by kernel_rfl) (by kernel_rfl) (Or.inl ⟨by rfl, ?_⟩) hS ?_
  · intro w' hS'
    have s0 := hS'
    go_simp
  change wpAnyU _ _ _ _ _ _ _ _ (Act.put _ (some 25) _) _
  simp only [Act.put, List.setIfInBounds_toArray, List.set_cons_succ, List.set_cons_zero]
  refine wpAnyU_take (i := 5) (v := (.pointer (some ⟨G.a, 0, none⟩))) rfl (by kernel_rfl) (fun _ _ _ h => h) (leads_of [[9]] (by kernel_rfl)) (by kernel_rfl) (by kernel_rfl) (by kernel_rfl) (Or.inl ⟨by rfl, ?_⟩) hS ?_
  · intro w' hS'
    have s0 := hS'
    go_simp
  change wpAnyU _ _ _ _ _ _ _ _ (Act.put _ (some 26) _) _
  simp only [Act.put, List.setIfInBounds_toArray, List.set_cons_succ, List.set_cons_zero]
  refine wpAnyU_take (i := 6) (v := (.string s)) rfl (by kernel_rfl) (fun _ _ _ h => h) (leads_of [[9]] (by kernel_rfl)) (by kernel_rfl) (by kernel_rfl) (by kernel_rfl) (Or.inl ⟨by rfl, ?_⟩) hS ?_
  · intro w' hS'
    have s0 := hS'
    go_simp
  change wpAnyU _ _ _ _ _ _ _ _ (Act.put _ (some 27) _) _
  simp only [Act.put, List.setIfInBounds_toArray, List.set_cons_succ, List.set_cons_zero]
  refine wpAnyU_all (rs := [7]) (by kernel_rfl) (by simp) ?_
  intro j hj
  obtain rfl := List.mem_singleton.1 hj
  clear hj
  refine wpOp_shut rfl (fun K' HK => ?_)
  refine step_call rfl (f := 73) rfl Try.func73 (by kernel_rfl) rfl #[(.pointer (some ⟨G.a, 0, none⟩)), (.string s)] (by simp only [List.map_toArray, List.map_cons, List.map_nil]; rfl) ?_
  refine (spotLI (HI.out.below (Below.refl _ _).drew) s).mono ?_
  rintro e w3 ⟨rfl, hb3'⟩
  refine ⟨_, rfl, ?_⟩
  have HB3 := hid (show Below w2.heap.size w2 w3 from (Below.refl _ _).drew.trans hb3')
  clear hb3'
  have c1k0 := keepc HB3.out c1k0'
  have c1k1 := keepc HB3.out c1k1'
  have fk0 : w3.frozen? ⟨G.b1, k * 2, none⟩ = false := (HI.out.below HB3.out).f1 _
  have fk1 : w3.frozen? ⟨G.b1, k * 2 + 1, none⟩ = false := (HI.out.below HB3.out).f1 _
  refine HK.out _ _ ⟨.inr ?_, ?_⟩
  · exact keepc HB3.out c1
  clear HK K'
  have hS := keepc HB3.out c1
  change wpAnyU _ _ _ _ _ _ _ _ (Act.put _ (some 28) _) _
  simp only [Act.put, List.setIfInBounds_toArray, List.set_cons_succ, List.set_cons_zero]
  refine wpAnyU_take (i := 8) (v := (.pointer (some ⟨G.b1, k * 2, none⟩))) rfl (by kernel_rfl) (fun _ _ _ h => h) (leads_of [[9]] (by kernel_rfl)) (by kernel_rfl) (by kernel_rfl) (by kernel_rfl) (Or.inl ⟨by rfl, ?_⟩) hS ?_
  · intro w' hS'
    have s0 := hS'
    go_simp
  change wpAnyU _ _ _ _ _ _ _ _ (Act.put _ (some 29) _) _
  simp only [Act.put, List.setIfInBounds_toArray, List.set_cons_succ, List.set_cons_zero]
  refine wpAnyU_all (rs := [9]) (by kernel_rfl) (by simp) ?_
  intro j hj
  obtain rfl := List.mem_singleton.1 hj
  clear hj
  refine wpOp_shut rfl (fun K' HK => ?_)
  go_simp
  refine HK.out _ _ ⟨.inl (by decide), ?_⟩
  clear HK K'
  refine wpAnyU_done (by kernel_rfl) ?_ _
  have hset := (HI.out.below HB3.out).setSpot (k := k) (spotF S.open_ s)
  have hkp : Kp (LK G oko) w ((w3.setCell ⟨G.b1, k * 2, none⟩ (.int .i64 (spotF S.open_ s).depth)).setCell ⟨G.b1, k * 2 + 1, none⟩ (.int .i64 (spotF S.open_ s).slot)) := ((Kp.of_below (HB.out.trans (HB3.out.mono HB.out.size))).trans (Kp.set (K := LK G oko) (p := ⟨G.b1, k * 2, none⟩) _ (.inr (.inl rfl))) (fun _ h => .inl h)).trans (Kp.set (K := LK G oko) (p := ⟨G.b1, k * 2 + 1, none⟩) _ (.inr (.inl rfl))) (fun _ h => .inl h)
  have hrn3 : ((w3.setCell ⟨G.b1, k * 2, none⟩ (.int .i64 (spotF S.open_ s).depth)).setCell ⟨G.b1, k * 2 + 1, none⟩ (.int .i64 (spotF S.open_ s).slot)).heap[w.heap.size]? = _ := (Kp.heap (K := fun j => j = G.b1) ((Kp.set (K := fun j => j = G.b1) (p := ⟨G.b1, k * 2, none⟩) _ rfl).trans (Kp.set (K := fun j => j = G.b1) (p := ⟨G.b1, k * 2 + 1, none⟩) _ rfl) (fun _ h => .inl h)) ((HB3.out.block _ hnbl).trans HRN.out) (fun e => by have := HI0.out.lt; omega))
  have HSET := hid hset
  have HKP := hid hkp
  clear hset hkp c1k0 c1k1 fk0 fk1 c1k0' c1k1' c1 HB3 HRN hS
  generalize ((w3.setCell ⟨G.b1, k * 2, none⟩ (.int .i64 (spotF S.open_ s).depth)).setCell ⟨G.b1, k * 2 + 1, none⟩ (.int .i64 (spotF S.open_ s).slot)) = W3 at *
  have HF4w := hid (Kd.F_step HF4.out (W1 := W3) (fun j hj _ => HKP.out.offl HI0.out j hj))
  have m0 := (cell_of_row _ _ 0 _ _ _ hrn3).trans (b := some (Value.int .i64 n.kind)) rfl
  have m1 := (cell_of_row _ _ 1 _ _ _ hrn3).trans (b := some (Value.int .i64 n.num)) rfl
  have m2 := (cell_of_row _ _ 2 _ _ _ hrn3).trans (b := some (Value.string n.text)) rfl
  have m3 := (cell_of_row _ _ 3 _ _ _ hrn3).trans (b := some (Value.slice A3 n.names.length c3)) rfl
  have m4 := (cell_of_row _ _ 4 _ _ _ hrn3).trans (b := some (Value.slice A4 n.kids.length c4)) rfl
  have m5 := (cell_of_row _ _ 5 _ _ _ hrn3).trans (b := some (Value.int .i64 n.at_)) rfl
  have t3 : (n.kind == (3 : Int)) = false := by have := hkd.out; rw [beq_eq_false_iff_ne]; omega
  have t10 : (n.kind == (10 : Int)) = false := by have := hkd.out; rw [beq_eq_false_iff_ne]; omega
  have t33 : (n.kind == (33 : Int)) = false := by have := hkd.out; rw [beq_eq_false_iff_ne]; omega
  have t25 : (n.kind == (25 : Int)) = false := by have := hkd.out; rw [beq_eq_false_iff_ne]; omega
  have t32 : (n.kind == (32 : Int)) = false := by have := hkd.out; rw [beq_eq_false_iff_ne]; omega
  go_wp2_with fail
  refine (all_w @IH.out HR.out HSET.out HF4w.out).mono ?_
  rintro e w5 ⟨rfl, hL⟩
  have HL := hid (LN.of HKP.out (fun _ h => .inl h) hL)
  clear hL
  go_wp2_with fail
  exact bodyPost_end (results_none rfl _ _ _) rfl ⟨rfl, HL.out⟩
set_option maxHeartbeats 1600000 in
set_option maxRecDepth 100000 in
theorem look_fun (ih : LookOk G m) (h : LI G w oko opv S) (hk : G.l[k]? = some n) (hd : declF G.l k = some d)  (hkd : Box (n.kind = 10)) (hdn : d = none) (hr : withinF G.l (lookF G.l m) k n.names n.kids S = some S') :
    Calls Try.prog 54 #[ptr G.a, .int .i64 k] w fun e w' => e = .returned (.tuple #[]) ∧ LN G w oko w' S' := by
  have hkl : k < G.l.length := (List.getElem?_eq_some_iff.1 hk).1
  have hkl' : (k : Int) < (G.l.length : Int) := by omega
  obtain ⟨A3, c3, A4, c4, hlt, n0, n1, n2, n3, n4, n5, l3, f3, l4, f4⟩ := h.nodes.node hk
  have c0 := h.c0
  have hb1 : Below w.heap.size w (w.alloc (.cells #[.int .i64 n.kind, .int .i64 n.num, .string n.text, .slice A3 n.names.length c3, .slice A4 n.kids.length c4, .int .i64 n.at_] 37)) := (Below.refl _ _).alloc (Nat.le_refl _) _
  have hr1 := heap_alloc_new w (.cells #[.int .i64 n.kind, .int .i64 n.num, .string n.text, .slice A3 n.names.length c3, .slice A4 n.kids.length c4, .int .i64 n.at_] 37)
  have h1 := h.below hb1
  have hdc := decl_c (w := w.alloc (.cells #[.int .i64 n.kind, .int .i64 n.num, .string n.text, .slice A3 n.names.length c3, .slice A4 n.kids.length c4, .int .i64 n.at_] 37)) h1.c0 h1.nodes hd
  have HDC := hid hdc
  have HI0 := hid h
  have HF3 := hid f3
  have HF4 := hid f4
  have HL3 := hid l3
  have HL4 := hid l4
  have H1 := hid h1
  have HB1 := hid hb1
  have HR1 := hid hr1
  have HR := hid hr
  have IH := hid @ih
  clear h f3 f4 l3 l4 h1 hb1 hr1 hdc hr ih hk hlt hd
  unfold ptr at *
  go_enter Try.func54, Try.ntmps54
  go_wp2_with fail
  refine HDC.out.mono ?_
  rintro e w2 ⟨rfl, hb2⟩
  have HI := hid (H1.out.below hb2)
  have HB := hid (HB1.out.trans (hb2.mono HB1.out.size))
  have hrn := (hb2.block w.heap.size (Array.getElem?_eq_some_iff.1 HR1.out).1).trans HR1.out
  have HRN := hid hrn
  have hnbl : w.heap.size < w2.heap.size := (Array.getElem?_eq_some_iff.1 hrn).1
  clear hb2 H1 HB1 HR1 HDC n0 n1 n2 n3 n4 n5 c0 hrn
  have m0 := (cell_of_row _ _ 0 _ _ _ HRN.out).trans (b := some (Value.int .i64 n.kind)) rfl
  have m1 := (cell_of_row _ _ 1 _ _ _ HRN.out).trans (b := some (Value.int .i64 n.num)) rfl
  have m2 := (cell_of_row _ _ 2 _ _ _ HRN.out).trans (b := some (Value.string n.text)) rfl
  have m3 := (cell_of_row _ _ 3 _ _ _ HRN.out).trans (b := some (Value.slice A3 n.names.length c3)) rfl
  have m4 := (cell_of_row _ _ 4 _ _ _ HRN.out).trans (b := some (Value.slice A4 n.kids.length c4)) rfl
  have m5 := (cell_of_row _ _ 5 _ _ _ HRN.out).trans (b := some (Value.int .i64 n.at_)) rfl
  subst hdn
  unfold declV
  have HKP := hid (Kp.of_below (K := LK G oko) HB.out)
  have HF4w := hid (Kd.F_step HF4.out (W1 := w2) (fun j hj _ => HKP.out.offl HI0.out j hj))
  have HF3w := hid (Kd.F_step HF3.out (W1 := w2) (fun j hj _ => HKP.out.offl HI0.out j hj))
  have t3 : (n.kind == (3 : Int)) = false := by have := hkd.out; rw [beq_eq_false_iff_ne]; omega
  have t10 : (n.kind == (10 : Int)) = true := by have := hkd.out; rw [beq_iff_eq]; omega
  go_wp2_with fail
  refine (within_w @IH.out HR.out HI.out HF3w.out HF4w.out).mono ?_
  rintro e w5 ⟨rfl, hL⟩
  have HL := hid (LN.of HKP.out (fun _ h => .inl h) hL)
  clear hL
  go_wp2_with fail
  exact bodyPost_end (results_none rfl _ _ _) rfl ⟨rfl, HL.out⟩
set_option maxHeartbeats 1600000 in
set_option maxRecDepth 100000 in
theorem look_all (ih : LookOk G m) (h : LI G w oko opv S) (hk : G.l[k]? = some n) (hd : declF G.l k = some d)  (hkd : Box (n.kind = 33)) (hdn : d = none) (hr : withinF G.l (lookF G.l m) k [] n.kids S = some S') :
    Calls Try.prog 54 #[ptr G.a, .int .i64 k] w fun e w' => e = .returned (.tuple #[]) ∧ LN G w oko w' S' := by
  have hkl : k < G.l.length := (List.getElem?_eq_some_iff.1 hk).1
  have hkl' : (k : Int) < (G.l.length : Int) := by omega
  obtain ⟨A3, c3, A4, c4, hlt, n0, n1, n2, n3, n4, n5, l3, f3, l4, f4⟩ := h.nodes.node hk
  have c0 := h.c0
  have hb1 : Below w.heap.size w (w.alloc (.cells #[.int .i64 n.kind, .int .i64 n.num, .string n.text, .slice A3 n.names.length c3, .slice A4 n.kids.length c4, .int .i64 n.at_] 37)) := (Below.refl _ _).alloc (Nat.le_refl _) _
  have hr1 := heap_alloc_new w (.cells #[.int .i64 n.kind, .int .i64 n.num, .string n.text, .slice A3 n.names.length c3, .slice A4 n.kids.length c4, .int .i64 n.at_] 37)
  have h1 := h.below hb1
  have hdc := decl_c (w := w.alloc (.cells #[.int .i64 n.kind, .int .i64 n.num, .string n.text, .slice A3 n.names.length c3, .slice A4 n.kids.length c4, .int .i64 n.at_] 37)) h1.c0 h1.nodes hd
  have HDC := hid hdc
  have HI0 := hid h
  have HF3 := hid f3
  have HF4 := hid f4
  have HL3 := hid l3
  have HL4 := hid l4
  have H1 := hid h1
  have HB1 := hid hb1
  have HR1 := hid hr1
  have HR := hid hr
  have IH := hid @ih
  clear h f3 f4 l3 l4 h1 hb1 hr1 hdc hr ih hk hlt hd
  unfold ptr at *
  go_enter Try.func54, Try.ntmps54
  go_wp2_with fail
  refine HDC.out.mono ?_
  rintro e w2 ⟨rfl, hb2⟩
  have HI := hid (H1.out.below hb2)
  have HB := hid (HB1.out.trans (hb2.mono HB1.out.size))
  have hrn := (hb2.block w.heap.size (Array.getElem?_eq_some_iff.1 HR1.out).1).trans HR1.out
  have HRN := hid hrn
  have hnbl : w.heap.size < w2.heap.size := (Array.getElem?_eq_some_iff.1 hrn).1
  clear hb2 H1 HB1 HR1 HDC n0 n1 n2 n3 n4 n5 c0 hrn
  have m0 := (cell_of_row _ _ 0 _ _ _ HRN.out).trans (b := some (Value.int .i64 n.kind)) rfl
  have m1 := (cell_of_row _ _ 1 _ _ _ HRN.out).trans (b := some (Value.int .i64 n.num)) rfl
  have m2 := (cell_of_row _ _ 2 _ _ _ HRN.out).trans (b := some (Value.string n.text)) rfl
  have m3 := (cell_of_row _ _ 3 _ _ _ HRN.out).trans (b := some (Value.slice A3 n.names.length c3)) rfl
  have m4 := (cell_of_row _ _ 4 _ _ _ HRN.out).trans (b := some (Value.slice A4 n.kids.length c4)) rfl
  have m5 := (cell_of_row _ _ 5 _ _ _ HRN.out).trans (b := some (Value.int .i64 n.at_)) rfl
  subst hdn
  unfold declV
  have HKP := hid (Kp.of_below (K := LK G oko) HB.out)
  have HF4w := hid (Kd.F_step HF4.out (W1 := w2) (fun j hj _ => HKP.out.offl HI0.out j hj))
  have HF3w := hid (Kd.F_step HF3.out (W1 := w2) (fun j hj _ => HKP.out.offl HI0.out j hj))
  have t3 : (n.kind == (3 : Int)) = false := by have := hkd.out; rw [beq_eq_false_iff_ne]; omega
  have t10 : (n.kind == (10 : Int)) = false := by have := hkd.out; rw [beq_eq_false_iff_ne]; omega
  have t33 : (n.kind == (33 : Int)) = true := by have := hkd.out; rw [beq_iff_eq]; omega
  go_wp2_with fail
  refine (within_w @IH.out HR.out HI.out (Kd.F_nil Kd.string w2 (fun _ => False)) HF4w.out).mono ?_
  rintro e w5 ⟨rfl, hL⟩
  have HL := hid (LN.of HKP.out (fun _ h => .inl h) hL)
  clear hL
  go_wp2_with fail
  exact bodyPost_end (results_none rfl _ _ _) rfl ⟨rfl, HL.out⟩
set_option maxHeartbeats 1600000 in
set_option maxRecDepth 100000 in
theorem look_scope (ih : LookOk G m) (h : LI G w oko opv S) (hk : G.l[k]? = some n) (hd : declF G.l k = some d)  {ns : List ByteArray} (hkd : Box (n.kind = 25)) (hdn : d = none) (HNS : Box (namesF G.l n.kids [] = some ns)) (hlen : 0 < ns.length) (hr : withinF G.l (lookF G.l m) k [] n.kids S = some S') :
    Calls Try.prog 54 #[ptr G.a, .int .i64 k] w fun e w' => e = .returned (.tuple #[]) ∧ LN G w oko w' S' := by
  have hkl : k < G.l.length := (List.getElem?_eq_some_iff.1 hk).1
  have hkl' : (k : Int) < (G.l.length : Int) := by omega
  obtain ⟨A3, c3, A4, c4, hlt, n0, n1, n2, n3, n4, n5, l3, f3, l4, f4⟩ := h.nodes.node hk
  have c0 := h.c0
  have hb1 : Below w.heap.size w (w.alloc (.cells #[.int .i64 n.kind, .int .i64 n.num, .string n.text, .slice A3 n.names.length c3, .slice A4 n.kids.length c4, .int .i64 n.at_] 37)) := (Below.refl _ _).alloc (Nat.le_refl _) _
  have hr1 := heap_alloc_new w (.cells #[.int .i64 n.kind, .int .i64 n.num, .string n.text, .slice A3 n.names.length c3, .slice A4 n.kids.length c4, .int .i64 n.at_] 37)
  have h1 := h.below hb1
  have hdc := decl_c (w := w.alloc (.cells #[.int .i64 n.kind, .int .i64 n.num, .string n.text, .slice A3 n.names.length c3, .slice A4 n.kids.length c4, .int .i64 n.at_] 37)) h1.c0 h1.nodes hd
  have HDC := hid hdc
  have HI0 := hid h
  have HF3 := hid f3
  have HF4 := hid f4
  have HL3 := hid l3
  have HL4 := hid l4
  have H1 := hid h1
  have HB1 := hid hb1
  have HR1 := hid hr1
  have HR := hid hr
  have IH := hid @ih
  clear h f3 f4 l3 l4 h1 hb1 hr1 hdc hr ih hk hlt hd
  unfold ptr at *
  go_enter Try.func54, Try.ntmps54
  go_wp2_with fail
  refine HDC.out.mono ?_
  rintro e w2 ⟨rfl, hb2⟩
  have HI := hid (H1.out.below hb2)
  have HB := hid (HB1.out.trans (hb2.mono HB1.out.size))
  have hrn := (hb2.block w.heap.size (Array.getElem?_eq_some_iff.1 HR1.out).1).trans HR1.out
  have HRN := hid hrn
  have hnbl : w.heap.size < w2.heap.size := (Array.getElem?_eq_some_iff.1 hrn).1
  clear hb2 H1 HB1 HR1 HDC n0 n1 n2 n3 n4 n5 c0 hrn
  have m0 := (cell_of_row _ _ 0 _ _ _ HRN.out).trans (b := some (Value.int .i64 n.kind)) rfl
  have m1 := (cell_of_row _ _ 1 _ _ _ HRN.out).trans (b := some (Value.int .i64 n.num)) rfl
  have m2 := (cell_of_row _ _ 2 _ _ _ HRN.out).trans (b := some (Value.string n.text)) rfl
  have m3 := (cell_of_row _ _ 3 _ _ _ HRN.out).trans (b := some (Value.slice A3 n.names.length c3)) rfl
  have m4 := (cell_of_row _ _ 4 _ _ _ HRN.out).trans (b := some (Value.slice A4 n.kids.length c4)) rfl
  have m5 := (cell_of_row _ _ 5 _ _ _ HRN.out).trans (b := some (Value.int .i64 n.at_)) rfl
  subst hdn
  unfold declV
  have HKP := hid (Kp.of_below (K := LK G oko) HB.out)
  have HF4w := hid (Kd.F_step HF4.out (W1 := w2) (fun j hj _ => HKP.out.offl HI0.out j hj))
  have HF3w := hid (Kd.F_step HF3.out (W1 := w2) (fun j hj _ => HKP.out.offl HI0.out j hj))
  have hlen' : (0 : Int) < (ns.length : Int) := by omega
  have t3 : (n.kind == (3 : Int)) = false := by have := hkd.out; rw [beq_eq_false_iff_ne]; omega
  have t10 : (n.kind == (10 : Int)) = false := by have := hkd.out; rw [beq_eq_false_iff_ne]; omega
  have t33 : (n.kind == (33 : Int)) = false := by have := hkd.out; rw [beq_eq_false_iff_ne]; omega
  have t25 : (n.kind == (25 : Int)) = true := by have := hkd.out; rw [beq_iff_eq]; omega
  have hmax := Kd.F_max HF4w.out
  have hnc := names_c (c := 0) (c4 := c4) HI.out.c0 HI.out.nodes (Kd.F_nil Kd.string w2 (fun _ => False)) (Nat.zero_le _) (Kd.F_now HF4w.out) hmax HNS.out
  have HNC := hid hnc
  clear hnc hmax
  go_wp2_with fail
  refine HNC.out.mono ?_
  rintro e w4 ⟨val, rfl, hO, hB4⟩
  obtain ⟨Av, cv, ev⟩ := hO.slice
  subst ev
  have hrn4 := (hB4.block w.heap.size hnbl).trans HRN.out
  have HI4 := hid (HI.out.below hB4)
  have HKP := hid (HKP.out.below hB4)
  have HF4w := hid (Kd.F_below HF4w.out hB4)
  clear hO hB4 HNC HNS m0 m1 m2 m3 m4 m5
  have m0 := (cell_of_row _ _ 0 _ _ _ hrn4).trans (b := some (Value.int .i64 n.kind)) rfl
  have m1 := (cell_of_row _ _ 1 _ _ _ hrn4).trans (b := some (Value.int .i64 n.num)) rfl
  have m2 := (cell_of_row _ _ 2 _ _ _ hrn4).trans (b := some (Value.string n.text)) rfl
  have m3 := (cell_of_row _ _ 3 _ _ _ hrn4).trans (b := some (Value.slice A3 n.names.length c3)) rfl
  have m4 := (cell_of_row _ _ 4 _ _ _ hrn4).trans (b := some (Value.slice A4 n.kids.length c4)) rfl
  have m5 := (cell_of_row _ _ 5 _ _ _ hrn4).trans (b := some (Value.int .i64 n.at_)) rfl
  go_wp2_with fail
  refine (within_w @IH.out HR.out HI4.out (Kd.F_nil Kd.string w4 (fun _ => False)) HF4w.out).mono ?_
  rintro e w5 ⟨rfl, hL⟩
  have HL := hid (LN.of HKP.out (fun _ h => .inl h) hL)
  clear hL
  go_wp2_with fail
  exact bodyPost_end (results_none rfl _ _ _) rfl ⟨rfl, HL.out⟩
set_option maxHeartbeats 1600000 in
set_option maxRecDepth 100000 in
theorem look_block (ih : LookOk G m) (h : LI G w oko opv S) (hk : G.l[k]? = some n) (hd : declF G.l k = some d)  {ns : List ByteArray} (hkd : Box (n.kind = 25)) (hdn : d = none) (HNS : Box (namesF G.l n.kids [] = some ns)) (hlen : ¬ 0 < ns.length) (hr : allF (lookF G.l m) n.kids S = some S') :
    Calls Try.prog 54 #[ptr G.a, .int .i64 k] w fun e w' => e = .returned (.tuple #[]) ∧ LN G w oko w' S' := by
  have hkl : k < G.l.length := (List.getElem?_eq_some_iff.1 hk).1
  have hkl' : (k : Int) < (G.l.length : Int) := by omega
  obtain ⟨A3, c3, A4, c4, hlt, n0, n1, n2, n3, n4, n5, l3, f3, l4, f4⟩ := h.nodes.node hk
  have c0 := h.c0
  have hb1 : Below w.heap.size w (w.alloc (.cells #[.int .i64 n.kind, .int .i64 n.num, .string n.text, .slice A3 n.names.length c3, .slice A4 n.kids.length c4, .int .i64 n.at_] 37)) := (Below.refl _ _).alloc (Nat.le_refl _) _
  have hr1 := heap_alloc_new w (.cells #[.int .i64 n.kind, .int .i64 n.num, .string n.text, .slice A3 n.names.length c3, .slice A4 n.kids.length c4, .int .i64 n.at_] 37)
  have h1 := h.below hb1
  have hdc := decl_c (w := w.alloc (.cells #[.int .i64 n.kind, .int .i64 n.num, .string n.text, .slice A3 n.names.length c3, .slice A4 n.kids.length c4, .int .i64 n.at_] 37)) h1.c0 h1.nodes hd
  have HDC := hid hdc
  have HI0 := hid h
  have HF3 := hid f3
  have HF4 := hid f4
  have HL3 := hid l3
  have HL4 := hid l4
  have H1 := hid h1
  have HB1 := hid hb1
  have HR1 := hid hr1
  have HR := hid hr
  have IH := hid @ih
  clear h f3 f4 l3 l4 h1 hb1 hr1 hdc hr ih hk hlt hd
  unfold ptr at *
  go_enter Try.func54, Try.ntmps54
  go_wp2_with fail
  refine HDC.out.mono ?_
  rintro e w2 ⟨rfl, hb2⟩
  have HI := hid (H1.out.below hb2)
  have HB := hid (HB1.out.trans (hb2.mono HB1.out.size))
  have hrn := (hb2.block w.heap.size (Array.getElem?_eq_some_iff.1 HR1.out).1).trans HR1.out
  have HRN := hid hrn
  have hnbl : w.heap.size < w2.heap.size := (Array.getElem?_eq_some_iff.1 hrn).1
  clear hb2 H1 HB1 HR1 HDC n0 n1 n2 n3 n4 n5 c0 hrn
  have m0 := (cell_of_row _ _ 0 _ _ _ HRN.out).trans (b := some (Value.int .i64 n.kind)) rfl
  have m1 := (cell_of_row _ _ 1 _ _ _ HRN.out).trans (b := some (Value.int .i64 n.num)) rfl
  have m2 := (cell_of_row _ _ 2 _ _ _ HRN.out).trans (b := some (Value.string n.text)) rfl
  have m3 := (cell_of_row _ _ 3 _ _ _ HRN.out).trans (b := some (Value.slice A3 n.names.length c3)) rfl
  have m4 := (cell_of_row _ _ 4 _ _ _ HRN.out).trans (b := some (Value.slice A4 n.kids.length c4)) rfl
  have m5 := (cell_of_row _ _ 5 _ _ _ HRN.out).trans (b := some (Value.int .i64 n.at_)) rfl
  subst hdn
  unfold declV
  have HKP := hid (Kp.of_below (K := LK G oko) HB.out)
  have HF4w := hid (Kd.F_step HF4.out (W1 := w2) (fun j hj _ => HKP.out.offl HI0.out j hj))
  have HF3w := hid (Kd.F_step HF3.out (W1 := w2) (fun j hj _ => HKP.out.offl HI0.out j hj))
  have hlen' : ¬ (0 : Int) < (ns.length : Int) := by omega
  have t3 : (n.kind == (3 : Int)) = false := by have := hkd.out; rw [beq_eq_false_iff_ne]; omega
  have t10 : (n.kind == (10 : Int)) = false := by have := hkd.out; rw [beq_eq_false_iff_ne]; omega
  have t33 : (n.kind == (33 : Int)) = false := by have := hkd.out; rw [beq_eq_false_iff_ne]; omega
  have t25 : (n.kind == (25 : Int)) = true := by have := hkd.out; rw [beq_iff_eq]; omega
  have hmax := Kd.F_max HF4w.out
  have hnc := names_c (c := 0) (c4 := c4) HI.out.c0 HI.out.nodes (Kd.F_nil Kd.string w2 (fun _ => False)) (Nat.zero_le _) (Kd.F_now HF4w.out) hmax HNS.out
  have HNC := hid hnc
  clear hnc hmax
  go_wp2_with fail
  refine HNC.out.mono ?_
  rintro e w4 ⟨val, rfl, hO, hB4⟩
  obtain ⟨Av, cv, ev⟩ := hO.slice
  subst ev
  have hrn4 := (hB4.block w.heap.size hnbl).trans HRN.out
  have HI4 := hid (HI.out.below hB4)
  have HKP := hid (HKP.out.below hB4)
  have HF4w := hid (Kd.F_below HF4w.out hB4)
  clear hO hB4 HNC HNS m0 m1 m2 m3 m4 m5
  have m0 := (cell_of_row _ _ 0 _ _ _ hrn4).trans (b := some (Value.int .i64 n.kind)) rfl
  have m1 := (cell_of_row _ _ 1 _ _ _ hrn4).trans (b := some (Value.int .i64 n.num)) rfl
  have m2 := (cell_of_row _ _ 2 _ _ _ hrn4).trans (b := some (Value.string n.text)) rfl
  have m3 := (cell_of_row _ _ 3 _ _ _ hrn4).trans (b := some (Value.slice A3 n.names.length c3)) rfl
  have m4 := (cell_of_row _ _ 4 _ _ _ hrn4).trans (b := some (Value.slice A4 n.kids.length c4)) rfl
  have m5 := (cell_of_row _ _ 5 _ _ _ hrn4).trans (b := some (Value.int .i64 n.at_)) rfl
  go_wp2_with fail
  refine (all_w @IH.out HR.out HI4.out HF4w.out).mono ?_
  rintro e w5 ⟨rfl, hL⟩
  have HL := hid (LN.of HKP.out (fun _ h => .inl h) hL)
  clear hL
  go_wp2_with fail
  exact bodyPost_end (results_none rfl _ _ _) rfl ⟨rfl, HL.out⟩
set_option maxHeartbeats 1600000 in
set_option maxRecDepth 100000 in
theorem look_other (ih : LookOk G m) (h : LI G w oko opv S) (hk : G.l[k]? = some n) (hd : declF G.l k = some d)  (hkd : Box (n.kind ≠ 3 ∧ n.kind ≠ 10 ∧ n.kind ≠ 33 ∧ n.kind ≠ 25 ∧ n.kind ≠ 32)) (hdn : d = none) (hr : allF (lookF G.l m) n.kids S = some S') :
    Calls Try.prog 54 #[ptr G.a, .int .i64 k] w fun e w' => e = .returned (.tuple #[]) ∧ LN G w oko w' S' := by
  have hkl : k < G.l.length := (List.getElem?_eq_some_iff.1 hk).1
  have hkl' : (k : Int) < (G.l.length : Int) := by omega
  obtain ⟨A3, c3, A4, c4, hlt, n0, n1, n2, n3, n4, n5, l3, f3, l4, f4⟩ := h.nodes.node hk
  have c0 := h.c0
  have hb1 : Below w.heap.size w (w.alloc (.cells #[.int .i64 n.kind, .int .i64 n.num, .string n.text, .slice A3 n.names.length c3, .slice A4 n.kids.length c4, .int .i64 n.at_] 37)) := (Below.refl _ _).alloc (Nat.le_refl _) _
  have hr1 := heap_alloc_new w (.cells #[.int .i64 n.kind, .int .i64 n.num, .string n.text, .slice A3 n.names.length c3, .slice A4 n.kids.length c4, .int .i64 n.at_] 37)
  have h1 := h.below hb1
  have hdc := decl_c (w := w.alloc (.cells #[.int .i64 n.kind, .int .i64 n.num, .string n.text, .slice A3 n.names.length c3, .slice A4 n.kids.length c4, .int .i64 n.at_] 37)) h1.c0 h1.nodes hd
  have HDC := hid hdc
  have HI0 := hid h
  have HF3 := hid f3
  have HF4 := hid f4
  have HL3 := hid l3
  have HL4 := hid l4
  have H1 := hid h1
  have HB1 := hid hb1
  have HR1 := hid hr1
  have HR := hid hr
  have IH := hid @ih
  clear h f3 f4 l3 l4 h1 hb1 hr1 hdc hr ih hk hlt hd
  unfold ptr at *
  go_enter Try.func54, Try.ntmps54
  go_wp2_with fail
  refine HDC.out.mono ?_
  rintro e w2 ⟨rfl, hb2⟩
  have HI := hid (H1.out.below hb2)
  have HB := hid (HB1.out.trans (hb2.mono HB1.out.size))
  have hrn := (hb2.block w.heap.size (Array.getElem?_eq_some_iff.1 HR1.out).1).trans HR1.out
  have HRN := hid hrn
  have hnbl : w.heap.size < w2.heap.size := (Array.getElem?_eq_some_iff.1 hrn).1
  clear hb2 H1 HB1 HR1 HDC n0 n1 n2 n3 n4 n5 c0 hrn
  have m0 := (cell_of_row _ _ 0 _ _ _ HRN.out).trans (b := some (Value.int .i64 n.kind)) rfl
  have m1 := (cell_of_row _ _ 1 _ _ _ HRN.out).trans (b := some (Value.int .i64 n.num)) rfl
  have m2 := (cell_of_row _ _ 2 _ _ _ HRN.out).trans (b := some (Value.string n.text)) rfl
  have m3 := (cell_of_row _ _ 3 _ _ _ HRN.out).trans (b := some (Value.slice A3 n.names.length c3)) rfl
  have m4 := (cell_of_row _ _ 4 _ _ _ HRN.out).trans (b := some (Value.slice A4 n.kids.length c4)) rfl
  have m5 := (cell_of_row _ _ 5 _ _ _ HRN.out).trans (b := some (Value.int .i64 n.at_)) rfl
  subst hdn
  unfold declV
  have HKP := hid (Kp.of_below (K := LK G oko) HB.out)
  have HF4w := hid (Kd.F_step HF4.out (W1 := w2) (fun j hj _ => HKP.out.offl HI0.out j hj))
  have HF3w := hid (Kd.F_step HF3.out (W1 := w2) (fun j hj _ => HKP.out.offl HI0.out j hj))
  have t3 : (n.kind == (3 : Int)) = false := by have := hkd.out; rw [beq_eq_false_iff_ne]; omega
  have t10 : (n.kind == (10 : Int)) = false := by have := hkd.out; rw [beq_eq_false_iff_ne]; omega
  have t33 : (n.kind == (33 : Int)) = false := by have := hkd.out; rw [beq_eq_false_iff_ne]; omega
  have t25 : (n.kind == (25 : Int)) = false := by have := hkd.out; rw [beq_eq_false_iff_ne]; omega
  have t32 : (n.kind == (32 : Int)) = false := by have := hkd.out; rw [beq_eq_false_iff_ne]; omega
  go_wp2_with fail
  refine (all_w @IH.out HR.out HI.out HF4w.out).mono ?_
  rintro e w5 ⟨rfl, hL⟩
  have HL := hid (LN.of HKP.out (fun _ h => .inl h) hL)
  clear hL
  go_wp2_with fail
  exact bodyPost_end (results_none rfl _ _ _) rfl ⟨rfl, HL.out⟩
set_option maxHeartbeats 1600000 in
set_option maxRecDepth 100000 in
theorem look_try (ih : LookOk G m) (h : LI G w oko opv S) (hk : G.l[k]? = some n) (hd : declF G.l k = some d)  {k0 k1 : Nat} {S2 : Lk} {n1 : Nd} (hkd : Box (n.kind = 32)) (hdn : d = none) (H0 : Box (n.kids[0]? = some k0)) (H1k : Box (n.kids[1]? = some k1)) (HN1 : Box (G.l[k1]? = some n1)) (HR0 : Box (lookF G.l m k0 S = some S2)) (hr : withinF G.l (lookF G.l m) k1 [n.text] n1.kids S2 = some S') :
    Calls Try.prog 54 #[ptr G.a, .int .i64 k] w fun e w' => e = .returned (.tuple #[]) ∧ LN G w oko w' S' := by
  have hkl : k < G.l.length := (List.getElem?_eq_some_iff.1 hk).1
  have hkl' : (k : Int) < (G.l.length : Int) := by omega
  obtain ⟨A3, c3, A4, c4, hlt, n0, n1, n2, n3, n4, n5, l3, f3, l4, f4⟩ := h.nodes.node hk
  have c0 := h.c0
  have hb1 : Below w.heap.size w (w.alloc (.cells #[.int .i64 n.kind, .int .i64 n.num, .string n.text, .slice A3 n.names.length c3, .slice A4 n.kids.length c4, .int .i64 n.at_] 37)) := (Below.refl _ _).alloc (Nat.le_refl _) _
  have hr1 := heap_alloc_new w (.cells #[.int .i64 n.kind, .int .i64 n.num, .string n.text, .slice A3 n.names.length c3, .slice A4 n.kids.length c4, .int .i64 n.at_] 37)
  have h1 := h.below hb1
  have hdc := decl_c (w := w.alloc (.cells #[.int .i64 n.kind, .int .i64 n.num, .string n.text, .slice A3 n.names.length c3, .slice A4 n.kids.length c4, .int .i64 n.at_] 37)) h1.c0 h1.nodes hd
  have HDC := hid hdc
  have HI0 := hid h
  have HF3 := hid f3
  have HF4 := hid f4
  have HL3 := hid l3
  have HL4 := hid l4
  have H1 := hid h1
  have HB1 := hid hb1
  have HR1 := hid hr1
  have HRW := hid hr
  have IH := hid @ih
  clear h f3 f4 l3 l4 h1 hb1 hr1 hdc hr ih hk hlt hd
  unfold ptr at *
  go_enter Try.func54, Try.ntmps54
  go_wp2_with fail
  refine HDC.out.mono ?_
  rintro e w2 ⟨rfl, hb2⟩
  have HI := hid (H1.out.below hb2)
  have HB := hid (HB1.out.trans (hb2.mono HB1.out.size))
  have hrn := (hb2.block w.heap.size (Array.getElem?_eq_some_iff.1 HR1.out).1).trans HR1.out
  have HRN := hid hrn
  have hnbl : w.heap.size < w2.heap.size := (Array.getElem?_eq_some_iff.1 hrn).1
  clear hb2 H1 HB1 HR1 HDC n0 n1 n2 n3 n4 n5 c0 hrn
  have m0 := (cell_of_row _ _ 0 _ _ _ HRN.out).trans (b := some (Value.int .i64 n.kind)) rfl
  have m1 := (cell_of_row _ _ 1 _ _ _ HRN.out).trans (b := some (Value.int .i64 n.num)) rfl
  have m2 := (cell_of_row _ _ 2 _ _ _ HRN.out).trans (b := some (Value.string n.text)) rfl
  have m3 := (cell_of_row _ _ 3 _ _ _ HRN.out).trans (b := some (Value.slice A3 n.names.length c3)) rfl
  have m4 := (cell_of_row _ _ 4 _ _ _ HRN.out).trans (b := some (Value.slice A4 n.kids.length c4)) rfl
  have m5 := (cell_of_row _ _ 5 _ _ _ HRN.out).trans (b := some (Value.int .i64 n.at_)) rfl
  subst hdn
  unfold declV
  have HKP := hid (Kp.of_below (K := LK G oko) HB.out)
  have HF4w := hid (Kd.F_step HF4.out (W1 := w2) (fun j hj _ => HKP.out.offl HI0.out j hj))
  have HF3w := hid (Kd.F_step HF3.out (W1 := w2) (fun j hj _ => HKP.out.offl HI0.out j hj))
  have t3 : (n.kind == (3 : Int)) = false := by have := hkd.out; rw [beq_eq_false_iff_ne]; omega
  have t10 : (n.kind == (10 : Int)) = false := by have := hkd.out; rw [beq_eq_false_iff_ne]; omega
  have t33 : (n.kind == (33 : Int)) = false := by have := hkd.out; rw [beq_eq_false_iff_ne]; omega
  have t25 : (n.kind == (25 : Int)) = false := by have := hkd.out; rw [beq_eq_false_iff_ne]; omega
  have t32 : (n.kind == (32 : Int)) = true := by have := hkd.out; rw [beq_iff_eq]; omega
  have hkl2 : 1 < n.kids.length := (List.getElem?_eq_some_iff.1 H1k.out).1
  have hkl20 : (0 : Int) < (n.kids.length : Int) := by omega
  have hkl21 : (1 : Int) < (n.kids.length : Int) := by omega
  obtain ⟨ad, rfl, q0⟩ := Kd.at_int (Kd.F_now HF4w.out) 0 (by omega) (by omega)
  have hx : rd (ints n.kids) 0 = (k0 : Int) := by unfold rd ints; simp [List.getElem?_map, H0.out]
  rw [hx] at q0
  have q0' : w2.cell? ad = some (.int .i64 k0) := by simpa [Addr.add] using q0
  have hL0 := IH.out HR0.out HI.out
  have HL0 := hid hL0
  clear hx q0 hL0
  go_wp2_with fail
  refine HL0.out.mono ?_
  rintro e w5 ⟨rfl, o5, v5, h5, k5, s5⟩
  have hrn5 := k5.heap HRN.out (fun q => by
    have h0 := HI0.out.lt
    rcases q with q | q | q | q
    · omega
    · omega
    · omega
    · have := HI0.out.lo _ q; omega)
  have HKP5 := hid (HKP.out.trans k5 (fun _ h => .inl h))
  have HS5 := hid (show ∀ k, o5 k → oko k ∨ w.heap.size ≤ k from fun k hk => (s5 k hk).imp id (fun h => Nat.le_trans HB.out.size h))
  have HF45 := hid (Kd.F_step HF4w.out (W1 := w5) (fun j hj _ => k5.offl HI.out j hj))
  have H5 := hid h5
  have hsz5 := k5.size
  clear h5 k5 s5 m0 m1 m2 m3 m4 m5 q0' HL0
  have m0 := (cell_of_row _ _ 0 _ _ _ hrn5).trans (b := some (Value.int .i64 n.kind)) rfl
  have m1 := (cell_of_row _ _ 1 _ _ _ hrn5).trans (b := some (Value.int .i64 n.num)) rfl
  have m2 := (cell_of_row _ _ 2 _ _ _ hrn5).trans (b := some (Value.string n.text)) rfl
  have m3 := (cell_of_row _ _ 3 _ _ _ hrn5).trans (b := some (Value.slice A3 n.names.length c3)) rfl
  have m4 := (cell_of_row _ _ 4 _ _ _ hrn5).trans (b := some (Value.slice (some ad) n.kids.length c4)) rfl
  have m5 := (cell_of_row _ _ 5 _ _ _ hrn5).trans (b := some (Value.int .i64 n.at_)) rfl
  obtain ⟨ad', e', q1'⟩ := Kd.at_int (Kd.F_now HF45.out) 1 (by omega) (by omega)
  injection e' with e'
  subst e'
  have hx : rd (ints n.kids) 1 = (k1 : Int) := by unfold rd ints; simp [List.getElem?_map, H1k.out]
  rw [hx] at q1'
  have q1 : w5.cell? ⟨ad.block, ad.off + 1, none⟩ = some (.int .i64 k1) := by simpa [Addr.add] using q1'
  obtain ⟨B3, d3, B4, d4, hk1l, _, _, _, _, q4, _, _, _, _, fk1⟩ := H5.out.nodes.node HN1.out
  have HFK1 := hid fk1
  have a0 := H5.out.c0
  have hk1l' : (k1 : Int) < (G.l.length : Int) := by omega
  have hadl : ad.block < w5.heap.size := cell_lt (p := ⟨ad.block, ad.off + 1, none⟩) q1
  have hgl : G.g < w5.heap.size := cell_lt (p := ⟨G.g, k1 * 6 + 4, none⟩) q4
  have hal := H5.out.lt.1
  have hnb5 : w.heap.size < w5.heap.size := by omega
  clear hx q1' fk1
  go_upto_region 18 with fail
  refine wp_region_until [19] (S := (fun w' => w'.cell? ⟨w.heap.size, 4, none⟩ = some (.slice (some ad) n.kids.length c4) ∧ w'.cell? ⟨w.heap.size, 2, none⟩ = some (.string n.text) ∧ w'.cell? ⟨G.a, 0, none⟩ = some (.slice (some ⟨G.g, 0, none⟩) G.l.length G.cap) ∧ w'.cell? ⟨ad.block, ad.off + 1, none⟩ = some (.int .i64 (k1 : Nat)) ∧ w'.cell? ⟨G.g, k1 * 6 + 4, none⟩ = some (.slice B4 n1.kids.length d4))) (by kernel_rfl) ?_ ?_
  · go_keep
  intro hS
  refine wpAnyU_take (i := 0) (v := (.pointer (some ⟨G.a, 0, none⟩))) rfl (by kernel_rfl) (fun _ _ _ h => h) (leads_of [[19]] (by kernel_rfl)) (by kernel_rfl) (by kernel_rfl) (by kernel_rfl) (Or.inl ⟨by rfl, ?_⟩) hS ?_
  · intro w' hS'
    obtain ⟨s0, s1, s2, s3, s4⟩ := hS'
    go_simp
  change wpAnyU _ _ _ _ _ _ _ _ (Act.put _ (some 89) _) _
  simp only [Act.put, List.setIfInBounds_toArray, List.set_cons_succ, List.set_cons_zero]
  refine wpAnyU_take (i := 1) (v := (.pointer (some ⟨w.heap.size, 4, none⟩))) rfl (by kernel_rfl) (fun _ _ _ h => h) (leads_of [[2, 3, 4, 19]] (by kernel_rfl)) (by kernel_rfl) (by kernel_rfl) (by kernel_rfl) (Or.inl ⟨by rfl, ?_⟩) hS ?_
  · intro w' hS'
    obtain ⟨s0, s1, s2, s3, s4⟩ := hS'
    go_simp
  change wpAnyU _ _ _ _ _ _ _ _ (Act.put _ (some 90) _) _
  simp only [Act.put, List.setIfInBounds_toArray, List.set_cons_succ, List.set_cons_zero]
  refine wpAnyU_take (i := 2) (v := (.slice (some ad) n.kids.length c4)) rfl (by kernel_rfl) (fun _ _ _ h => h) (leads_of [[3, 4, 19]] (by kernel_rfl)) (by kernel_rfl) (by kernel_rfl) (by kernel_rfl) (Or.inl ⟨by rfl, ?_⟩) hS ?_
  · intro w' hS'
    obtain ⟨s0, s1, s2, s3, s4⟩ := hS'
    go_simp
  change wpAnyU _ _ _ _ _ _ _ _ (Act.put _ (some 91) _) _
  simp only [Act.put, List.setIfInBounds_toArray, List.set_cons_succ, List.set_cons_zero]
  refine wpAnyU_take (i := 3) (v := (.pointer (some ⟨ad.block, ad.off + 1, none⟩))) rfl (by kernel_rfl) (fun _ _ _ h => h) (leads_of [[4, 19]] (by kernel_rfl)) (by kernel_rfl) (by kernel_rfl) (by kernel_rfl) (Or.inl ⟨by rfl, ?_⟩) hS ?_
  · intro w' hS'
    obtain ⟨s0, s1, s2, s3, s4⟩ := hS'
    go_simp
  change wpAnyU _ _ _ _ _ _ _ _ (Act.put _ (some 92) _) _
  simp only [Act.put, List.setIfInBounds_toArray, List.set_cons_succ, List.set_cons_zero]
  refine wpAnyU_take (i := 4) (v := (.int .i64 (k1 : Nat))) rfl (by kernel_rfl) (fun _ _ _ h => h) (leads_of [[19]] (by kernel_rfl)) (by kernel_rfl) (by kernel_rfl) (by kernel_rfl) (Or.inl ⟨by rfl, ?_⟩) hS ?_
  · intro w' hS'
    obtain ⟨s0, s1, s2, s3, s4⟩ := hS'
    go_simp
  change wpAnyU _ _ _ _ _ _ _ _ (Act.put _ (some 93) _) _
  simp only [Act.put, List.setIfInBounds_toArray, List.set_cons_succ, List.set_cons_zero]
  refine wpAnyU_take (i := 5) (v := (.pointer (some ⟨w.heap.size, 2, none⟩))) rfl (by kernel_rfl) (fun _ _ _ h => h) (leads_of [[6, 7, 19]] (by kernel_rfl)) (by kernel_rfl) (by kernel_rfl) (by kernel_rfl) (Or.inl ⟨by rfl, ?_⟩) hS ?_
  · intro w' hS'
    obtain ⟨s0, s1, s2, s3, s4⟩ := hS'
    go_simp
  change wpAnyU _ _ _ _ _ _ _ _ (Act.put _ (some 94) _) _
  simp only [Act.put, List.setIfInBounds_toArray, List.set_cons_succ, List.set_cons_zero]
  refine wpAnyU_take (i := 6) (v := (.string n.text)) rfl (by kernel_rfl) (fun _ _ _ h => h) (leads_of [[7, 19]] (by kernel_rfl)) (by kernel_rfl) (by kernel_rfl) (by kernel_rfl) (Or.inl ⟨by rfl, ?_⟩) hS ?_
  · intro w' hS'
    obtain ⟨s0, s1, s2, s3, s4⟩ := hS'
    go_simp
  change wpAnyU _ _ _ _ _ _ _ _ (Act.put _ (some 95) _) _
  simp only [Act.put, List.setIfInBounds_toArray, List.set_cons_succ, List.set_cons_zero]
  refine wpAnyU_take (i := 8) (v := (.pointer (some ⟨G.a, 0, none⟩))) rfl (by kernel_rfl) (fun _ _ _ h => h) (leads_of [[9, 10, 11, 16, 17, 18, 19]] (by kernel_rfl)) (by kernel_rfl) (by kernel_rfl) (by kernel_rfl) (Or.inl ⟨by rfl, ?_⟩) hS ?_
  · intro w' hS'
    obtain ⟨s0, s1, s2, s3, s4⟩ := hS'
    go_simp
  change wpAnyU _ _ _ _ _ _ _ _ (Act.put _ (some 97) _) _
  simp only [Act.put, List.setIfInBounds_toArray, List.set_cons_succ, List.set_cons_zero]
  refine wpAnyU_take (i := 9) (v := (.pointer (some ⟨G.a, 0, none⟩))) rfl (by kernel_rfl) (fun _ _ _ h => h) (leads_of [[10, 11, 16, 17, 18, 19]] (by kernel_rfl)) (by kernel_rfl) (by kernel_rfl) (by kernel_rfl) (Or.inl ⟨by rfl, ?_⟩) hS ?_
  · intro w' hS'
    obtain ⟨s0, s1, s2, s3, s4⟩ := hS'
    go_simp
  change wpAnyU _ _ _ _ _ _ _ _ (Act.put _ (some 98) _) _
  simp only [Act.put, List.setIfInBounds_toArray, List.set_cons_succ, List.set_cons_zero]
  refine wpAnyU_take (i := 10) (v := (.pointer (some ⟨G.a, 0, none⟩))) rfl (by kernel_rfl) (fun _ _ _ h => h) (leads_of [[11, 16, 17, 18, 19]] (by kernel_rfl)) (by kernel_rfl) (by kernel_rfl) (by kernel_rfl) (Or.inl ⟨by rfl, ?_⟩) hS ?_
  · intro w' hS'
    obtain ⟨s0, s1, s2, s3, s4⟩ := hS'
    go_simp
  change wpAnyU _ _ _ _ _ _ _ _ (Act.put _ (some 99) _) _
  simp only [Act.put, List.setIfInBounds_toArray, List.set_cons_succ, List.set_cons_zero]
  refine wpAnyU_take (i := 11) (v := (.slice (some ⟨G.g, 0, none⟩) G.l.length G.cap)) rfl (by kernel_rfl) (fun _ _ _ h => h) (leads_of [[16, 17, 18, 19]] (by kernel_rfl)) (by kernel_rfl) (by kernel_rfl) (by kernel_rfl) (Or.inl ⟨by rfl, ?_⟩) hS ?_
  · intro w' hS'
    obtain ⟨s0, s1, s2, s3, s4⟩ := hS'
    go_simp
  change wpAnyU _ _ _ _ _ _ _ _ (Act.put _ (some 100) _) _
  simp only [Act.put, List.setIfInBounds_toArray, List.set_cons_succ, List.set_cons_zero]
  refine wpAnyU_take (i := 12) (v := (.pointer (some ⟨w.heap.size, 4, none⟩))) rfl (by kernel_rfl) (fun _ _ _ h => h) (leads_of [[13, 14, 15, 16, 17, 18, 19]] (by kernel_rfl)) (by kernel_rfl) (by kernel_rfl) (by kernel_rfl) (Or.inl ⟨by rfl, ?_⟩) hS ?_
  · intro w' hS'
    obtain ⟨s0, s1, s2, s3, s4⟩ := hS'
    go_simp
  change wpAnyU _ _ _ _ _ _ _ _ (Act.put _ (some 101) _) _
  simp only [Act.put, List.setIfInBounds_toArray, List.set_cons_succ, List.set_cons_zero]
  refine wpAnyU_take (i := 13) (v := (.slice (some ad) n.kids.length c4)) rfl (by kernel_rfl) (fun _ _ _ h => h) (leads_of [[14, 15, 16, 17, 18, 19]] (by kernel_rfl)) (by kernel_rfl) (by kernel_rfl) (by kernel_rfl) (Or.inl ⟨by rfl, ?_⟩) hS ?_
  · intro w' hS'
    obtain ⟨s0, s1, s2, s3, s4⟩ := hS'
    go_simp
  change wpAnyU _ _ _ _ _ _ _ _ (Act.put _ (some 102) _) _
  simp only [Act.put, List.setIfInBounds_toArray, List.set_cons_succ, List.set_cons_zero]
  refine wpAnyU_take (i := 14) (v := (.pointer (some ⟨ad.block, ad.off + 1, none⟩))) rfl (by kernel_rfl) (fun _ _ _ h => h) (leads_of [[15, 16, 17, 18, 19]] (by kernel_rfl)) (by kernel_rfl) (by kernel_rfl) (by kernel_rfl) (Or.inl ⟨by rfl, ?_⟩) hS ?_
  · intro w' hS'
    obtain ⟨s0, s1, s2, s3, s4⟩ := hS'
    go_simp
  change wpAnyU _ _ _ _ _ _ _ _ (Act.put _ (some 103) _) _
  simp only [Act.put, List.setIfInBounds_toArray, List.set_cons_succ, List.set_cons_zero]
  refine wpAnyU_take (i := 15) (v := (.int .i64 (k1 : Nat))) rfl (by kernel_rfl) (fun _ _ _ h => h) (leads_of [[16, 17, 18, 19]] (by kernel_rfl)) (by kernel_rfl) (by kernel_rfl) (by kernel_rfl) (Or.inl ⟨by rfl, ?_⟩) hS ?_
  · intro w' hS'
    obtain ⟨s0, s1, s2, s3, s4⟩ := hS'
    go_simp
  change wpAnyU _ _ _ _ _ _ _ _ (Act.put _ (some 104) _) _
  simp only [Act.put, List.setIfInBounds_toArray, List.set_cons_succ, List.set_cons_zero]
  refine wpAnyU_take (i := 16) (v := (.pointer (some ⟨G.g, k1 * 6, none⟩))) rfl (by kernel_rfl) (fun _ _ _ h => h) (leads_of [[17, 18, 19]] (by kernel_rfl)) (by kernel_rfl) (by kernel_rfl) (by kernel_rfl) (Or.inl ⟨by rfl, ?_⟩) hS ?_
  · intro w' hS'
    obtain ⟨s0, s1, s2, s3, s4⟩ := hS'
    go_simp
  change wpAnyU _ _ _ _ _ _ _ _ (Act.put _ (some 105) _) _
  simp only [Act.put, List.setIfInBounds_toArray, List.set_cons_succ, List.set_cons_zero]
  refine wpAnyU_take (i := 17) (v := (.pointer (some ⟨G.g, k1 * 6 + 4, none⟩))) rfl (by kernel_rfl) (fun _ _ _ h => h) (leads_of [[18, 19]] (by kernel_rfl)) (by kernel_rfl) (by kernel_rfl) (by kernel_rfl) (Or.inl ⟨by rfl, ?_⟩) hS ?_
  · intro w' hS'
    obtain ⟨s0, s1, s2, s3, s4⟩ := hS'
    go_simp
  change wpAnyU _ _ _ _ _ _ _ _ (Act.put _ (some 106) _) _
  simp only [Act.put, List.setIfInBounds_toArray, List.set_cons_succ, List.set_cons_zero]
  refine wpAnyU_take (i := 18) (v := (.slice B4 n1.kids.length d4)) rfl (by kernel_rfl) (fun _ _ _ h => h) (leads_of [[19]] (by kernel_rfl)) (by kernel_rfl) (by kernel_rfl) (by kernel_rfl) (Or.inl ⟨by rfl, ?_⟩) hS ?_
  · intro w' hS'
    obtain ⟨s0, s1, s2, s3, s4⟩ := hS'
    go_simp
  change wpAnyU _ _ _ _ _ _ _ _ (Act.put _ (some 107) _) _
  simp only [Act.put, List.setIfInBounds_toArray, List.set_cons_succ, List.set_cons_zero]
  refine wpAnyU_all (rs := [7]) (by kernel_rfl) (by simp) ?_
  intro j hj
  obtain rfl := List.mem_singleton.1 hj
  clear hj
  refine wpOp_shut rfl (fun K' HK => ?_)
  go_simp
  refine HK.out _ _ ⟨.inr ?_, ?_⟩
  · exact ⟨keepc ((Below.refl w5.heap.size w5).drew.alloc (Nat.le_refl _) (.cells #[.string n.text] 9)) m4, keepc ((Below.refl w5.heap.size w5).drew.alloc (Nat.le_refl _) (.cells #[.string n.text] 9)) m2, keepc ((Below.refl w5.heap.size w5).drew.alloc (Nat.le_refl _) (.cells #[.string n.text] 9)) a0, keepc ((Below.refl w5.heap.size w5).drew.alloc (Nat.le_refl _) (.cells #[.string n.text] 9)) q1, keepc ((Below.refl w5.heap.size w5).drew.alloc (Nat.le_refl _) (.cells #[.string n.text] 9)) q4⟩
  clear HK K'
  have hS := And.intro (keepc ((Below.refl w5.heap.size w5).drew.alloc (Nat.le_refl _) (.cells #[.string n.text] 9)) m4) (And.intro (keepc ((Below.refl w5.heap.size w5).drew.alloc (Nat.le_refl _) (.cells #[.string n.text] 9)) m2) (And.intro (keepc ((Below.refl w5.heap.size w5).drew.alloc (Nat.le_refl _) (.cells #[.string n.text] 9)) a0) (And.intro (keepc ((Below.refl w5.heap.size w5).drew.alloc (Nat.le_refl _) (.cells #[.string n.text] 9)) q1) (keepc ((Below.refl w5.heap.size w5).drew.alloc (Nat.le_refl _) (.cells #[.string n.text] 9)) q4))))
  try simp only [Act.put, List.setIfInBounds_toArray, List.set_cons_succ, List.set_cons_zero]
  refine wpAnyU_all (rs := [19]) (by kernel_rfl) (by simp) ?_
  intro j hj
  obtain rfl := List.mem_singleton.1 hj
  clear hj
  refine wpOp_shut rfl (fun K' HK => ?_)
  refine step_call rfl (f := 74) rfl Try.func74 (by kernel_rfl) rfl #[(.pointer (some ⟨G.a, 0, none⟩)), (.int .i64 (k1 : Nat)), (.slice (some ⟨w5.heap.size, 0, none⟩) 1 1), (.slice B4 n1.kids.length d4)] (by simp only [List.map_toArray, List.map_cons, List.map_nil]; rfl) ?_
  refine (within_w @IH.out HRW.out (H5.out.below ((Below.refl w5.heap.size w5).drew.alloc (Nat.le_refl _) _)) (textF w5.drew n.text) (Kd.F_below HFK1.out ((Below.refl w5.heap.size w5).drew.alloc (Nat.le_refl _) _))).mono ?_
  rintro e w6 ⟨rfl, hL6⟩
  refine ⟨_, rfl, ?_⟩
  have HL6 := hid hL6
  clear hL6
  refine HK.out _ _ ⟨.inl (by decide), ?_⟩
  clear HK K'
  change wpAnyU _ _ _ _ _ _ _ _ (Act.put _ (some 108) _) _
  simp only [Act.put, List.setIfInBounds_toArray, List.set_cons_succ, List.set_cons_zero]
  refine wpAnyU_done (by kernel_rfl) ?_ _
  have HL := hid (LN.of HKP5.out HS5.out (LN.pre ((Below.refl w5.heap.size w5).drew.alloc (Nat.le_refl _) _) HL6.out))
  clear HL6
  go_wp2_with fail
  exact bodyPost_end (results_none rfl _ _ _) rfl ⟨rfl, HL.out⟩
end
end Go.Proofs.Ytibepkblgliooaa.Q
