/- What a proof further on needs (part t). -/
import Derived.Test.YtibepkblgliooaaKs
set_option linter.unusedVariables false
namespace Go.Proofs.Ytibepkblgliooaa.Q
open Go.RowKit
open Go.Proofs.YtibepkblgliooaaW.PrintWords
section
variable {G : MG} {w w' : World} {F : Nat → Prop} {ids : List (Option Nat)} {S S' : Mk} {n : Nd} {A3 A4 : Option Addr} {c3 c4 m k : Nat}
set_option maxHeartbeats 3200000 in
set_option maxRecDepth 100000 in
theorem mblock_c (h : MS G w F ids S) (hn : G.l[k]? = some n) (ih : NodeOk G m) (hr : blockM G.l G.spots G.slots G.funs (nodeM G.l G.spots G.slots G.funs m) k n S = some S') :
    Calls Try.prog 77 #[ptr G.a, .int .i64 k] w fun e w' => e = .returned (.tuple #[]) ∧ MN G w F ids w' S' := by
  unfold blockM at hr
  obtain ⟨x, hx, hr⟩ := Option.bind_eq_some_iff.1 hr
  obtain ⟨A3, c3, AK, cK, hkl, n0, n1, n2, n3, n4, n5, _, _, _, _, fk⟩ := h.box hn
  obtain ⟨ks, hks⟩ : ∃ ks, n.kids = ks := ⟨_, rfl⟩
  rw [hks] at hr n4 fk
  have hkl' : (k : Int) < (G.l.length : Int) := by omega
  have g0 := h.c0
  have hal := h.lt.1
  have hgl := cell_lt n0
  dsimp only at hgl
  have hb : Below w.heap.size w ((w.alloc (.cells #[.pointer (some ⟨G.a, 0, none⟩)] 68)).alloc (.cells #[.slice AK ks.length cK] 35)) := ((Below.refl _ _).alloc (Nat.le_refl _) _).alloc (by simp) _
  have hsz : ((w.alloc (.cells #[.pointer (some ⟨G.a, 0, none⟩)] 68)).alloc (.cells #[.slice AK ks.length cK] 35)).heap.size = w.heap.size + 2 := by simp
  have RM : Box (((w.alloc (.cells #[.pointer (some ⟨G.a, 0, none⟩)] 68)).alloc (.cells #[.slice AK ks.length cK] 35)).heap[w.heap.size]? = some (.cells #[.pointer (some ⟨G.a, 0, none⟩)] 68 (0, 0))) := hid ((heap_alloc_old _ _ (by simp)).trans (heap_alloc_new _ _))
  have RK : Box (((w.alloc (.cells #[.pointer (some ⟨G.a, 0, none⟩)] 68)).alloc (.cells #[.slice AK ks.length cK] 35)).heap[w.heap.size + 1]? = some (.cells #[.slice AK ks.length cK] 35 (0, 0))) := hid (by have := heap_alloc_new (w.alloc (.cells #[.pointer (some ⟨G.a, 0, none⟩)] 68)) (.cells #[.slice AK ks.length cK] 35); rwa [show (w.alloc (.cells #[.pointer (some ⟨G.a, 0, none⟩)] 68)).heap.size = w.heap.size + 1 by simp] at this)
  have HS := hid (h.below hb)
  have FK := hid (Kd.F_below fk hb)
  have NM := hid (show ¬ MK G F w.heap.size from h.free)
  have NK := hid (show ¬ MK G F (w.heap.size + 1) from fun q => q.elim (fun q => by have := h.lt.1; omega) (fun q => by have := (h.off _ q).2.2.2.2.2; omega))
  have LB := hid (show w.heap.size < ((w.alloc (.cells #[.pointer (some ⟨G.a, 0, none⟩)] 68)).alloc (.cells #[.slice AK ks.length cK] 35)).heap.size ∧ w.heap.size + 1 < ((w.alloc (.cells #[.pointer (some ⟨G.a, 0, none⟩)] 68)).alloc (.cells #[.slice AK ks.length cK] 35)).heap.size by omega)
  have HB := hid hb
  have HX := hid (h.below hb).same
  have HXS := hid hx
  have IH := hid @ih
  have hxl := (List.getElem?_eq_some_iff.1 hx).1
  clear hb hsz h fk hn hx ih hks
  unfold ptr
  go_enter Try.func77, Try.ntmps77
  go_upto_region 2 with fail
  clear n0 n1 n2 n3 n4 n5 g0 hal hgl
  generalize ((w.alloc (.cells #[.pointer (some ⟨G.a, 0, none⟩)] 68)).alloc (.cells #[.slice AK ks.length cK] 35)) = W at *
  obtain ⟨bm, hbm⟩ : ∃ bm, bm = w.heap.size := ⟨_, rfl⟩
  obtain ⟨bk, hbk⟩ : ∃ bk, bk = w.heap.size + 1 := ⟨_, rfl⟩
  rw [← hbk] at RK NK LB ⊢
  rw [← hbm] at RM NM LB ⊢
  clear hbm hbk
  have c2 := HS.out.c2
  have sl := (cell_of_row _ _ k _ _ _ HS.out.sl).trans (c := some (Value.int .i64 x)) (by simp [slCells, HXS.out])
  have cm := (cell_of_row _ _ 0 _ _ _ RM.out).trans (b := some (Value.pointer (some ⟨G.a, 0, none⟩))) rfl
  split at hr
  · rename_i hx0
    have hx0' : x < 0 := hx0
    have HR := hid hr
    clear hr hx0
    go_upto_region 3 with fail
    clear c2 sl cm
    obtain ⟨F1, h1, k1, s1⟩ := id HX.out
    have rm1 := k1.heap RM.out NM.out
    have cm := (cell_of_row _ _ 0 _ _ _ rm1).trans (b := some (Value.pointer (some ⟨G.a, 0, none⟩))) rfl
    have rk1 := k1.heap RK.out NK.out
    have ck := (cell_of_row _ _ 0 _ _ _ rk1).trans (b := some (Value.slice AK ks.length cK)) rfl
    have fk := Kd.F_step FK.out (fun j q _ => k1.offM HS.out.offl j q)
    have hc := mall_c (c := cK) IH.out h1 HR.out fk
    unfold ptr at hc
    have HC := hid hc
    have K := hid k1
    have SS := hid s1
    clear hc h1 k1 s1 HX rm1 rk1 fk
    go_wp2_with fail
    refine HC.out.mono ?_
    rintro e w1 ⟨rfl, hN⟩
    have HX := hid (MN.of K.out SS.out hN)
    clear hN HC K SS
    go_wp2_with fail
    exact bodyPost_ret (results_none rfl _ _ _) rfl ⟨rfl, MN.pre HB.out HX.out⟩
  · rename_i hx0
    have hx0' : ¬ x < 0 := hx0
    obtain ⟨T1, t1, hr⟩ := Option.bind_eq_some_iff.1 hr
    obtain ⟨T2, t2, hr⟩ := Option.bind_eq_some_iff.1 hr
    obtain ⟨T3, t3, hr⟩ := Option.bind_eq_some_iff.1 hr
    have H1 := hid t1
    have H2 := hid t2
    have H4 := hid hr
    obtain ⟨P1, hp, hq0⟩ := Option.bind_eq_some_iff.1 t3
    obtain ⟨P2, hd, hq⟩ := Option.bind_eq_some_iff.1 hq0
    have HP := hid hp
    have HQ := hid hq
    have HD := hid hd
    clear t3 hp hq hd hq0
    clear t1 t2 hr hx0
    have hc := mnum_c (HS.out.below (below_drew (Below.refl _ _))) H1.out
    unfold ptr at hc
    have HC := hid hc
    clear hc HX
    go_upto_region 4 with fail
    refine wp_region_still_tail 8 (by kernel_rfl) (by kernel_rfl) ?_
    simp only [List.take_succ_cons, List.take_zero, List.drop_succ_cons, List.drop_zero]
    repeat still_step
    refine wpStill_nil ?_
    change wpList _ _ _ _ _ W.drew
    go_wp2_with fail
    refine HC.out.mono ?_
    rintro e w0 ⟨rfl, hN⟩
    have HX := hid (MN.pre (below_drew (Below.refl _ _)) hN)
    clear hN HC c2 sl cm
    obtain ⟨F1, h1, k1, s1⟩ := id HX.out
    have rm1 := k1.heap RM.out NM.out
    have cm := (cell_of_row _ _ 0 _ _ _ rm1).trans (b := some (Value.pointer (some ⟨G.a, 0, none⟩))) rfl
    have rk1 := k1.heap RK.out NK.out
    have ck := (cell_of_row _ _ 0 _ _ _ rk1).trans (b := some (Value.slice AK ks.length cK)) rfl
    have fk := Kd.F_step FK.out (fun j q _ => k1.offM HS.out.offl j q)
    have hc := begin_c (c := cK) h1 H2.out fk
    unfold ptr at hc
    have HC := hid hc
    have K := hid k1
    have SS := hid s1
    clear hc h1 k1 s1 HX rm1 rk1 fk
    go_wp2_with fail
    refine HC.out.mono ?_
    rintro e w1 ⟨rfl, hN⟩
    have HX := hid (MN.of K.out SS.out hN)
    clear hN HC K SS
    clear cm ck
    obtain ⟨F2, h2, k2, s2⟩ := id HX.out
    have rm2 := k2.heap RM.out NM.out
    have cm := (cell_of_row _ _ 0 _ _ _ rm2).trans (b := some (Value.pointer (some ⟨G.a, 0, none⟩))) rfl
    have rk2 := k2.heap RK.out NK.out
    have ck := (cell_of_row _ _ 0 _ _ _ rk2).trans (b := some (Value.slice AK ks.length cK)) rfl
    have fk := Kd.F_step FK.out (fun j q _ => k2.offM HS.out.offl j q)
    have hc : Calls Try.prog 90 #[ptr G.a, .agg #[.int .i64 34, .pointer none], .func (.func 91) #[] #[ptr bm, ptr bk]] _ _ := mwithin_c (x := .lv 34) (pid := none) (E := fun _ => False) (fun w => callFunc_ok Try.func91 (by kernel_rfl) rfl _ w) h2 HP.out HQ.out (.lv .nil) (fun _ q => q.elim) (fun wz Fz gz kz sz => by
        have e1 : wz.heap[bm]? = _ := kz.heap rm2 (fun q => q.elim (fun e => NM.out (.inl e)) (fun q => q.elim (fun q => (s2 _ q).elim (fun q => NM.out (.inr q)) (fun q => by have := LB.out.1; omega)) id))
        have e2 : wz.heap[bk]? = _ := kz.heap rk2 (fun q => q.elim (fun e => NK.out (.inl e)) (fun q => q.elim (fun q => (s2 _ q).elim (fun q => NK.out (.inr q)) (fun q => by have := LB.out.2; omega)) id))
        exact blockDo_c (c := cK) IH.out gz ((cell_of_row _ _ 0 _ _ _ e1).trans rfl) ((cell_of_row _ _ 0 _ _ _ e2).trans rfl) HD.out (Kd.F_step fk (fun j q _ => kz.block j (h2.offl j q).2.2 (fun e => e.elim (h2.offl j q).1 (fun e => e.elim (h2.offl j q).2.1 id)))))
    unfold ptr at hc
    have HC := hid hc
    have K := hid k2
    have SS := hid s2
    clear hc h2 k2 s2 HX rm2 rk2 fk
    go_wp2_with fail
    refine HC.out.mono ?_
    rintro e w2 ⟨rfl, hN⟩
    have HX := hid (MN.of K.out SS.out hN.mn)
    clear hN HC K SS
    clear cm ck
    obtain ⟨F3, h3, k3, s3⟩ := id HX.out
    have rm3 := k3.heap RM.out NM.out
    have cm := (cell_of_row _ _ 0 _ _ _ rm3).trans (b := some (Value.pointer (some ⟨G.a, 0, none⟩))) rfl
    have hc := mput_c h3 H4.out
    unfold ptr at hc
    have HC := hid hc
    have K := hid k3
    have SS := hid s3
    clear hc h3 k3 s3 HX rm3
    go_wp2_with fail
    refine HC.out.mono ?_
    rintro e w3 ⟨rfl, hN⟩
    have HX := hid (MN.of K.out SS.out hN)
    clear hN HC K SS
    go_wp2_with fail
    exact bodyPost_end (results_none rfl _ _ _) rfl ⟨rfl, MN.pre HB.out HX.out⟩
set_option maxHeartbeats 3200000 in
set_option maxRecDepth 100000 in
theorem mtry_c (h : MS G w F ids S) (l3 : n.names.length ≤ c3) (f3 : Kd.F Kd.string w G.okl A3 n.names.length n.names) (l4 : n.kids.length ≤ c4) (f4 : Kd.F (Kd.int .i64) w G.okl A4 n.kids.length (ints n.kids)) (ih : NodeOk G m) (hr : tryM G.l G.spots G.slots G.funs (nodeM G.l G.spots G.slots G.funs m) n S = some S') :
    Calls Try.prog 80 #[ptr G.a, (.agg #[.int .i64 n.kind, .int .i64 n.num, .string n.text, .slice A3 n.names.length c3, .slice A4 n.kids.length c4, .int .i64 n.at_])] w fun e w' => e = .returned (.tuple #[]) ∧ MN G w F ids w' S' := by
  unfold tryM at hr
  obtain ⟨k0, hk0, hr⟩ := Option.bind_eq_some_iff.1 hr
  obtain ⟨k1, hk1, hr⟩ := Option.bind_eq_some_iff.1 hr
  obtain ⟨T1, t1, hr⟩ := Option.bind_eq_some_iff.1 hr
  obtain ⟨T2, t2, hr⟩ := Option.bind_eq_some_iff.1 hr
  obtain ⟨T3, t3, hr⟩ := Option.bind_eq_some_iff.1 hr
  obtain ⟨T4, t4, hr⟩ := Option.bind_eq_some_iff.1 hr
  obtain ⟨T5, t5, hr⟩ := Option.bind_eq_some_iff.1 hr
  obtain ⟨n1, hn1, hr⟩ := Option.bind_eq_some_iff.1 hr
  obtain ⟨x, hx, hr⟩ := Option.bind_eq_some_iff.1 hr
  obtain ⟨T6, t6, hr⟩ := Option.bind_eq_some_iff.1 hr
  obtain ⟨T7, t7, hr⟩ := Option.bind_eq_some_iff.1 hr
  obtain ⟨T8, t8, hr⟩ := Option.bind_eq_some_iff.1 hr
  obtain ⟨T9, t9, hr⟩ := Option.bind_eq_some_iff.1 hr
  obtain ⟨T10, t10, hr⟩ := Option.bind_eq_some_iff.1 hr
  have hkl1 := (List.getElem?_eq_some_iff.1 hk1).1
  have hkl0 : 0 < n.kids.length := by omega
  have hki1 : (1 : Int) < (n.kids.length : Int) := by omega
  have HK0 := hid hk0
  have HK1 := hid hk1
  have HN1 := hid hn1
  have HXS := hid hx
  have hxl := (List.getElem?_eq_some_iff.1 hx).1
  have H1 := hid t1
  have H3 := hid t3
  have H4 := hid t4
  have H5 := hid t5
  have H6 := hid t6
  have H7 := hid t7
  have H8 := hid t8
  have H10 := hid t10
  have H11 := hid hr
  have H2 := hid t2
  have H9 := hid t9
  clear hk0 hk1 hn1 hx t1 t2 t3 t4 t5 t6 t7 t8 t9 t10 hr
  obtain ⟨ad, rfl⟩ : ∃ ad, A4 = some ad := by
    obtain ⟨ad, e, _⟩ := Kd.at_int (Kd.F_now f4) 0 (by omega) (by omega)
    exact ⟨ad, e⟩
  have hb : Below w.heap.size w ((w.alloc (.cells #[.pointer (some ⟨G.a, 0, none⟩)] 68)).alloc (.cells #[.int .i64 n.kind, .int .i64 n.num, .string n.text, .slice A3 n.names.length c3, .slice (some ad) n.kids.length c4, .int .i64 n.at_] 37)) := ((Below.refl _ _).alloc (Nat.le_refl _) _).alloc (by simp) _
  have hsz : ((w.alloc (.cells #[.pointer (some ⟨G.a, 0, none⟩)] 68)).alloc (.cells #[.int .i64 n.kind, .int .i64 n.num, .string n.text, .slice A3 n.names.length c3, .slice (some ad) n.kids.length c4, .int .i64 n.at_] 37)).heap.size = w.heap.size + 2 := by simp
  have RM : Box (((w.alloc (.cells #[.pointer (some ⟨G.a, 0, none⟩)] 68)).alloc (.cells #[.int .i64 n.kind, .int .i64 n.num, .string n.text, .slice A3 n.names.length c3, .slice (some ad) n.kids.length c4, .int .i64 n.at_] 37)).heap[w.heap.size]? = some (.cells #[.pointer (some ⟨G.a, 0, none⟩)] 68 (0, 0))) := hid ((heap_alloc_old _ _ (by simp)).trans (heap_alloc_new _ _))
  have NB : Box (NBx G ((w.alloc (.cells #[.pointer (some ⟨G.a, 0, none⟩)] 68)).alloc (.cells #[.int .i64 n.kind, .int .i64 n.num, .string n.text, .slice A3 n.names.length c3, .slice (some ad) n.kids.length c4, .int .i64 n.at_] 37)) (w.heap.size + 1) n A3 c3 (some ad) c4) := hid (by have := NBx.new (G := G) (w := w.alloc (.cells #[.pointer (some ⟨G.a, 0, none⟩)] 68)) l3 (Kd.F_below f3 ((Below.refl _ _).alloc (Nat.le_refl _) _)) l4 (Kd.F_below f4 ((Below.refl _ _).alloc (Nat.le_refl _) _)); rwa [show (w.alloc (.cells #[.pointer (some ⟨G.a, 0, none⟩)] 68)).heap.size = w.heap.size + 1 by simp] at this)
  have HS := hid (h.below hb)
  have NM := hid (show ¬ MK G F w.heap.size from h.free)
  have NN := hid (show ¬ MK G F (w.heap.size + 1) from fun q => q.elim (fun q => by have := h.lt.1; omega) (fun q => by have := (h.off _ q).2.2.2.2.2; omega))
  have LB := hid (show w.heap.size < ((w.alloc (.cells #[.pointer (some ⟨G.a, 0, none⟩)] 68)).alloc (.cells #[.int .i64 n.kind, .int .i64 n.num, .string n.text, .slice A3 n.names.length c3, .slice (some ad) n.kids.length c4, .int .i64 n.at_] 37)).heap.size ∧ w.heap.size + 1 < ((w.alloc (.cells #[.pointer (some ⟨G.a, 0, none⟩)] 68)).alloc (.cells #[.int .i64 n.kind, .int .i64 n.num, .string n.text, .slice A3 n.names.length c3, .slice (some ad) n.kids.length c4, .int .i64 n.at_] 37)).heap.size by omega)
  have HB := hid hb
  have HX := hid (h.below hb).same
  have IH := hid @ih
  have H0 := hid h
  have HZ := hid hsz
  clear hb hsz h l3 l4 f3 f4 ih
  unfold ptr
  go_enter Try.func80, Try.ntmps80
  go_upto_region 1 with fail
  generalize ((w.alloc (.cells #[.pointer (some ⟨G.a, 0, none⟩)] 68)).alloc (.cells #[.int .i64 n.kind, .int .i64 n.num, .string n.text, .slice A3 n.names.length c3, .slice (some ad) n.kids.length c4, .int .i64 n.at_] 37)) = W at *
  obtain ⟨bm, hbm⟩ : ∃ bm, bm = w.heap.size := ⟨_, rfl⟩
  obtain ⟨nb, hnb⟩ : ∃ nb, nb = w.heap.size + 1 := ⟨_, rfl⟩
  rw [← hnb] at NB NN LB ⊢
  rw [← hbm] at RM NM LB ⊢
  have HBM := hid (And.intro hbm hnb)
  clear hbm hnb
  obtain ⟨F1, h1, k1, s1⟩ := id HX.out
  have rm1 := k1.heap RM.out NM.out
  have cm := (cell_of_row _ _ 0 _ _ _ rm1).trans (b := some (Value.pointer (some ⟨G.a, 0, none⟩))) rfl
  have hc := mput_c h1 H1.out
  unfold ptr at hc
  have HC := hid hc
  have K := hid k1
  have SS := hid s1
  clear hc h1 k1 s1 HX rm1
  go_wp2_with fail
  refine HC.out.mono ?_
  rintro e w1 ⟨rfl, hN⟩
  have HX := hid (MN.of K.out SS.out hN)
  clear hN HC K SS
  clear cm
  obtain ⟨P1, hp, hq0⟩ := Option.bind_eq_some_iff.1 H2.out
  obtain ⟨P2, hd, hq⟩ := Option.bind_eq_some_iff.1 hq0
  have HP := hid hp
  have HQ := hid hq
  have HD := hid hd
  clear H2 hp hq hd hq0
  obtain ⟨F2, h2, k2, s2⟩ := id HX.out
  have rm2 := k2.heap RM.out NM.out
  have cm := (cell_of_row _ _ 0 _ _ _ rm2).trans (b := some (Value.pointer (some ⟨G.a, 0, none⟩))) rfl
  have b2 := NB.out.at HS.out NN.out k2
  have m4 := b2.m4
  have hc : Calls Try.prog 90 #[ptr G.a, .agg #[.int .i64 36, .pointer none], .func (.func 93) #[] #[ptr bm, ptr nb]] _ _ := mwithin_c (x := .lv 36) (pid := none) (E := fun _ => False) (fun w => callFunc_ok Try.func93 (by kernel_rfl) rfl _ w) h2 HP.out HQ.out (.lv .nil) (fun _ q => q.elim) (fun wz Fz gz kz sz => by
        have e1 : wz.heap[bm]? = _ := kz.heap rm2 (fun q => q.elim (fun e => NM.out (.inl e)) (fun q => q.elim (fun q => (s2 _ q).elim (fun q => NM.out (.inr q)) (fun q => by have := LB.out.1; omega)) id))
        have e2 := b2.kp kz (fun q => q.elim (fun e => NN.out (.inl e)) (fun q => q.elim (fun q => (s2 _ q).elim (fun q => NN.out (.inr q)) (fun q => by have := LB.out.2; omega)) id)) (fun j q => ⟨(h2.offl j q).2.2, fun e => e.elim (h2.offl j q).1 (fun e => e.elim (h2.offl j q).2.1 id)⟩)
        exact tryNode_c IH.out gz ((cell_of_row _ _ 0 _ _ _ e1).trans rfl) e2 HK0.out HD.out)
  unfold ptr at hc
  have HC := hid hc
  have K := hid k2
  have SS := hid s2
  clear hc h2 k2 s2 HX rm2 b2
  go_wp2_with fail
  refine HC.out.mono ?_
  rintro e w2 ⟨rfl, hN⟩
  have HX := hid (MN.of K.out SS.out hN.mn)
  clear hN HC K SS
  clear cm m4 HP HQ HD
  obtain ⟨F3, h3, k3, s3⟩ := id HX.out
  have rm3 := k3.heap RM.out NM.out
  have cm := (cell_of_row _ _ 0 _ _ _ rm3).trans (b := some (Value.pointer (some ⟨G.a, 0, none⟩))) rfl
  have hc := mput_c h3 H3.out
  unfold ptr at hc
  have HC := hid hc
  have K := hid k3
  have SS := hid s3
  clear hc h3 k3 s3 HX rm3
  go_wp2_with fail
  refine HC.out.mono ?_
  rintro e w3 ⟨rfl, hN⟩
  have HX := hid (MN.of K.out SS.out hN)
  clear hN HC K SS
  clear cm
  obtain ⟨F4, h4, k4, s4⟩ := id HX.out
  have rm4 := k4.heap RM.out NM.out
  have cm := (cell_of_row _ _ 0 _ _ _ rm4).trans (b := some (Value.pointer (some ⟨G.a, 0, none⟩))) rfl
  have hc := mput_c h4 H4.out
  unfold ptr at hc
  have HC := hid hc
  have K := hid k4
  have SS := hid s4
  clear hc h4 k4 s4 HX rm4
  go_wp2_with fail
  refine HC.out.mono ?_
  rintro e w4 ⟨rfl, hN⟩
  have HX := hid (MN.of K.out SS.out hN)
  clear hN HC K SS
  clear cm
  obtain ⟨F5, h5, k5, s5⟩ := id HX.out
  have rm5 := k5.heap RM.out NM.out
  have cm := (cell_of_row _ _ 0 _ _ _ rm5).trans (b := some (Value.pointer (some ⟨G.a, 0, none⟩))) rfl
  have hc := here1_c h5 H5.out
  unfold ptr at hc
  have HC := hid hc
  have K := hid k5
  have SS := hid s5
  clear hc h5 k5 s5 HX rm5
  go_wp2_with fail
  refine HC.out.mono ?_
  rintro e w5 ⟨rfl, hN⟩
  have HX := hid (MN.of K.out SS.out hN)
  clear hN HC K SS
  clear cm
  obtain ⟨F6, h6, k6, s6⟩ := id HX.out
  have rm6 := k6.heap RM.out NM.out
  have cm := (cell_of_row _ _ 0 _ _ _ rm6).trans (b := some (Value.pointer (some ⟨G.a, 0, none⟩))) rfl
  have b6 := NB.out.at HS.out NN.out k6
  have m4 := b6.m4
  have q1 := b6.kid1 HK1.out
  obtain ⟨B3, d3, AK, cK, hkl, n0, n1', n2, n3, n4, n5, _, _, _, _, fk⟩ := h6.box HN1.out
  obtain ⟨ks, hks⟩ : ∃ ks, n1.kids = ks := ⟨_, rfl⟩
  have HKS := hid hks
  rw [hks] at n4 fk
  have hkl' : (k1 : Int) < (G.l.length : Int) := by omega
  have g0 := h6.c0
  have hal := h6.lt.1
  have hgl := cell_lt n0
  dsimp only at hgl
  have hb := (Below.refl w5.heap.size w5).alloc (Nat.le_refl _) (.cells #[.slice AK ks.length cK] 35)
  have HS7 := hid (h6.below hb)
  have RM7 := hid ((hb.block _ (Array.getElem?_eq_some_iff.1 rm6).1).trans rm6)
  have NM7 := hid (show ¬ MK G F6 bm from fun q => q.elim (fun e => NM.out (.inl e)) (fun q => (s6 _ q).elim (fun q => NM.out (.inr q)) (fun q => by have := LB.out.1; omega)))
  have RK : Box ((w5.alloc (.cells #[.slice AK ks.length cK] 35)).heap[w5.heap.size]? = some (.cells #[.slice AK ks.length cK] 35 (0, 0))) := hid (heap_alloc_new _ _)
  have NK := hid h6.free
  have FK := hid (Kd.F_below fk hb)
  have LB7 := hid (show bm < (w5.alloc (.cells #[.slice AK ks.length cK] 35)).heap.size ∧ w5.heap.size < (w5.alloc (.cells #[.slice AK ks.length cK] 35)).heap.size from ⟨(Array.getElem?_eq_some_iff.1 RM7.out).1, by simp⟩)
  have KB7 := hid (((Kp.of_below (K := MK G F) HB.out).trans k6 (fun _ q => .inl q)).below hb)
  have SB7 := hid (fun j q => (s6 j q).imp id (fun q => Nat.le_trans HB.out.size q) : ∀ j, F6 j → F j ∨ w.heap.size ≤ j)
  have HX7 := hid (h6.below hb).same
  clear hb h6 k6 s6 rm6 b6 fk hks HX HS RM NM LB NB NN
  go_upto_region 8 with fail
  clear n0 n1' n2 n3 n4 n5 g0 hal hgl cm m4 q1
  generalize (w5.alloc (.cells #[.slice AK ks.length cK] 35)) = W7 at *
  obtain ⟨bk, hbk⟩ : ∃ bk, bk = w5.heap.size := ⟨_, rfl⟩
  rw [← hbk] at RK NK LB7 ⊢
  clear hbk
  have HS := HS7
  have RM := RM7
  have NM := NM7
  have LB := LB7
  have HX := HX7
  clear HS7 RM7 NM7 LB7 HX7
  have c2 := HS.out.c2
  have sl := (cell_of_row _ _ k1 _ _ _ HS.out.sl).trans (c := some (Value.int .i64 x)) (by simp [slCells, HXS.out])
  have cm := (cell_of_row _ _ 0 _ _ _ RM.out).trans (b := some (Value.pointer (some ⟨G.a, 0, none⟩))) rfl
  have hc := mnum_c (HS.out.below (below_drew (Below.refl _ _))) H6.out
  unfold ptr at hc
  have HC := hid hc
  clear hc HX
  go_upto_region 8 with fail
  refine wp_region_still_tail 8 (by kernel_rfl) (by kernel_rfl) ?_
  simp only [List.take_succ_cons, List.take_zero, List.drop_succ_cons, List.drop_zero]
  repeat still_step
  refine wpStill_nil ?_
  change wpList _ _ _ _ _ W7.drew
  go_wp2_with fail
  refine HC.out.mono ?_
  rintro e w0 ⟨rfl, hN⟩
  have HX := hid (MN.pre (below_drew (Below.refl _ _)) hN)
  clear hN HC c2 sl cm
  obtain ⟨F7, h7, k7, s7⟩ := id HX.out
  have rm7 := k7.heap RM.out NM.out
  have cm := (cell_of_row _ _ 0 _ _ _ rm7).trans (b := some (Value.pointer (some ⟨G.a, 0, none⟩))) rfl
  have hc := mnum_c h7 H7.out
  unfold ptr at hc
  have HC := hid hc
  have K := hid k7
  have SS := hid s7
  clear hc h7 k7 s7 HX rm7
  go_wp2_with fail
  refine HC.out.mono ?_
  rintro e w7 ⟨rfl, hN⟩
  have HX := hid (MN.of K.out SS.out hN)
  clear hN HC K SS
  clear cm
  have h8 := H8.out
  rw [HKS.out] at h8
  have H8' := hid h8
  clear h8
  have h9 := H9.out
  rw [HKS.out] at h9
  obtain ⟨P1, hp, hq0⟩ := Option.bind_eq_some_iff.1 h9
  obtain ⟨P2, hd, hq⟩ := Option.bind_eq_some_iff.1 hq0
  have HP := hid hp
  have HQ := hid hq
  have HD := hid hd
  clear H9 h9 hp hq hd hq0
  obtain ⟨F8, h8, k8, s8⟩ := id HX.out
  have rm8 := k8.heap RM.out NM.out
  have cm := (cell_of_row _ _ 0 _ _ _ rm8).trans (b := some (Value.pointer (some ⟨G.a, 0, none⟩))) rfl
  have rk8 := k8.heap RK.out NK.out
  have ck := (cell_of_row _ _ 0 _ _ _ rk8).trans (b := some (Value.slice AK ks.length cK)) rfl
  have fk := Kd.F_step FK.out (fun j q _ => k8.offM HS.out.offl j q)
  have hc := begin_c (c := cK) h8 H8'.out fk
  unfold ptr at hc
  have HC := hid hc
  have K := hid k8
  have SS := hid s8
  clear hc h8 k8 s8 HX rm8 rk8 fk
  go_wp2_with fail
  refine HC.out.mono ?_
  rintro e w8 ⟨rfl, hN⟩
  have HX := hid (MN.of K.out SS.out hN)
  clear hN HC K SS
  clear cm ck
  obtain ⟨F9, h9, k9, s9⟩ := id HX.out
  have rm9 := k9.heap RM.out NM.out
  have cm := (cell_of_row _ _ 0 _ _ _ rm9).trans (b := some (Value.pointer (some ⟨G.a, 0, none⟩))) rfl
  have rk9 := k9.heap RK.out NK.out
  have ck := (cell_of_row _ _ 0 _ _ _ rk9).trans (b := some (Value.slice AK ks.length cK)) rfl
  have fk := Kd.F_step FK.out (fun j q _ => k9.offM HS.out.offl j q)
  have hc : Calls Try.prog 90 #[ptr G.a, .agg #[.int .i64 34, .pointer none], .func (.func 94) #[] #[ptr bm, ptr bk]] _ _ := mwithin_c (x := .lv 34) (pid := none) (E := fun _ => False) (fun w => callFunc_ok Try.func94 (by kernel_rfl) rfl _ w) h9 HP.out HQ.out (.lv .nil) (fun _ q => q.elim) (fun wz Fz gz kz sz => by
        have e1 : wz.heap[bm]? = _ := kz.heap rm9 (fun q => q.elim (fun e => NM.out (.inl e)) (fun q => q.elim (fun q => (s9 _ q).elim (fun q => NM.out (.inr q)) (fun q => by have := LB.out.1; omega)) id))
        have e2 : wz.heap[bk]? = _ := kz.heap rk9 (fun q => q.elim (fun e => NK.out (.inl e)) (fun q => q.elim (fun q => (s9 _ q).elim (fun q => NK.out (.inr q)) (fun q => by have := LB.out.2; omega)) id))
        exact tryDo_c (c := cK) IH.out gz ((cell_of_row _ _ 0 _ _ _ e1).trans rfl) ((cell_of_row _ _ 0 _ _ _ e2).trans rfl) HD.out (Kd.F_step fk (fun j q _ => kz.block j (h9.offl j q).2.2 (fun e => e.elim (h9.offl j q).1 (fun e => e.elim (h9.offl j q).2.1 id)))))
  unfold ptr at hc
  have HC := hid hc
  have K := hid k9
  have SS := hid s9
  clear hc h9 k9 s9 HX rm9 rk9 fk
  go_wp2_with fail
  refine HC.out.mono ?_
  rintro e w9 ⟨rfl, hN⟩
  have HX := hid (MN.of K.out SS.out hN.mn)
  clear hN HC K SS
  clear cm ck
  obtain ⟨F10, h10, k10, s10⟩ := id HX.out
  have rm10 := k10.heap RM.out NM.out
  have cm := (cell_of_row _ _ 0 _ _ _ rm10).trans (b := some (Value.pointer (some ⟨G.a, 0, none⟩))) rfl
  have hc := mput_c h10 H10.out
  unfold ptr at hc
  have HC := hid hc
  have K := hid k10
  have SS := hid s10
  clear hc h10 k10 s10 HX rm10
  go_wp2_with fail
  refine HC.out.mono ?_
  rintro e w10 ⟨rfl, hN⟩
  have HX := hid (MN.of K.out SS.out hN)
  clear hN HC K SS
  clear cm
  obtain ⟨F11, h11, k11, s11⟩ := id HX.out
  have rm11 := k11.heap RM.out NM.out
  have cm := (cell_of_row _ _ 0 _ _ _ rm11).trans (b := some (Value.pointer (some ⟨G.a, 0, none⟩))) rfl
  have hc := here1_c h11 H11.out
  unfold ptr at hc
  have HC := hid hc
  have K := hid k11
  have SS := hid s11
  clear hc h11 k11 s11 HX rm11
  go_wp2_with fail
  refine HC.out.mono ?_
  rintro e w11 ⟨rfl, hN⟩
  have HX := hid (MN.of K.out SS.out hN)
  clear hN HC K SS
  go_wp2_with fail
  exact bodyPost_end (results_none rfl _ _ _) rfl ⟨rfl, MN.of KB7.out SB7.out HX.out⟩
end
end Go.Proofs.Ytibepkblgliooaa.Q
namespace Go.Proofs.Ytibepkblgliooaa.Q
open Go.RowKit
open Go.Proofs.YtibepkblgliooaaW.PrintWords
theorem infoInt8 : (Try.prog.info? 3).map (fun i => (i.zero, i.size, i.bytes)) = some (some (.int .i64 0), 1, 8) := by kernel_rfl
section
variable {G : MG} {w w' : World} {F : Nat → Prop} {ids : List (Option Nat)} {S S' : Mk} {n : Nd} {A3 A4 : Option Addr} {c3 c4 m k : Nat}
set_option maxHeartbeats 3200000 in
set_option maxRecDepth 100000 in
theorem mwhile_c (h : MS G w F ids S) (l3 : n.names.length ≤ c3) (f3 : Kd.F Kd.string w G.okl A3 n.names.length n.names) (l4 : n.kids.length ≤ c4) (f4 : Kd.F (Kd.int .i64) w G.okl A4 n.kids.length (ints n.kids)) (ih : NodeOk G m) (hr : whileM (nodeM G.l G.spots G.slots G.funs m) n S = some S') :
    Calls Try.prog 78 #[ptr G.a, (.agg #[.int .i64 n.kind, .int .i64 n.num, .string n.text, .slice A3 n.names.length c3, .slice A4 n.kids.length c4, .int .i64 n.at_])] w fun e w' => e = .returned (.tuple #[]) ∧ MN G w F ids w' S' := by
  unfold whileM at hr
  obtain ⟨k0, hk0, hr⟩ := Option.bind_eq_some_iff.1 hr
  obtain ⟨k1, hk1, hr⟩ := Option.bind_eq_some_iff.1 hr
  obtain ⟨T1, t1, hr⟩ := Option.bind_eq_some_iff.1 hr
  obtain ⟨T2, t2, hr⟩ := Option.bind_eq_some_iff.1 hr
  obtain ⟨T3, t3, hr⟩ := Option.bind_eq_some_iff.1 hr
  obtain ⟨T4, t4, hr⟩ := Option.bind_eq_some_iff.1 hr
  have hkl1 := (List.getElem?_eq_some_iff.1 hk1).1
  have hkl0 : 0 < n.kids.length := by omega
  have hki0 : (0 : Int) < (n.kids.length : Int) := by omega
  have HK0 := hid hk0
  have HK1 := hid hk1
  have H1 := hid t1
  have H2 := hid t2
  have H3 := hid t3
  have H4 := hid t4
  have HR := hid hr
  clear hk0 hk1 t1 t2 t3 t4 hr
  obtain ⟨ad, rfl⟩ : ∃ ad, A4 = some ad := by
    obtain ⟨ad, e, _⟩ := Kd.at_int (Kd.F_now f4) 0 (by omega) (by omega)
    exact ⟨ad, e⟩
  have hb : Below w.heap.size w ((w.alloc (.cells #[.pointer (some ⟨G.a, 0, none⟩)] 68)).alloc (.cells #[.int .i64 n.kind, .int .i64 n.num, .string n.text, .slice A3 n.names.length c3, .slice (some ad) n.kids.length c4, .int .i64 n.at_] 37)) := ((Below.refl _ _).alloc (Nat.le_refl _) _).alloc (by simp) _
  have hsz : ((w.alloc (.cells #[.pointer (some ⟨G.a, 0, none⟩)] 68)).alloc (.cells #[.int .i64 n.kind, .int .i64 n.num, .string n.text, .slice A3 n.names.length c3, .slice (some ad) n.kids.length c4, .int .i64 n.at_] 37)).heap.size = w.heap.size + 2 := by simp
  have RM : Box (((w.alloc (.cells #[.pointer (some ⟨G.a, 0, none⟩)] 68)).alloc (.cells #[.int .i64 n.kind, .int .i64 n.num, .string n.text, .slice A3 n.names.length c3, .slice (some ad) n.kids.length c4, .int .i64 n.at_] 37)).heap[w.heap.size]? = some (.cells #[.pointer (some ⟨G.a, 0, none⟩)] 68 (0, 0))) := hid ((heap_alloc_old _ _ (by simp)).trans (heap_alloc_new _ _))
  have NB : Box (NBx G ((w.alloc (.cells #[.pointer (some ⟨G.a, 0, none⟩)] 68)).alloc (.cells #[.int .i64 n.kind, .int .i64 n.num, .string n.text, .slice A3 n.names.length c3, .slice (some ad) n.kids.length c4, .int .i64 n.at_] 37)) (w.heap.size + 1) n A3 c3 (some ad) c4) := hid (by have := NBx.new (G := G) (w := w.alloc (.cells #[.pointer (some ⟨G.a, 0, none⟩)] 68)) l3 (Kd.F_below f3 ((Below.refl _ _).alloc (Nat.le_refl _) _)) l4 (Kd.F_below f4 ((Below.refl _ _).alloc (Nat.le_refl _) _)); rwa [show (w.alloc (.cells #[.pointer (some ⟨G.a, 0, none⟩)] 68)).heap.size = w.heap.size + 1 by simp] at this)
  have HS := hid (h.below hb)
  have NM := hid (show ¬ MK G F w.heap.size from h.free)
  have NN := hid (show ¬ MK G F (w.heap.size + 1) from fun q => q.elim (fun q => by have := h.lt.1; omega) (fun q => by have := (h.off _ q).2.2.2.2.2; omega))
  have LB := hid (show w.heap.size < ((w.alloc (.cells #[.pointer (some ⟨G.a, 0, none⟩)] 68)).alloc (.cells #[.int .i64 n.kind, .int .i64 n.num, .string n.text, .slice A3 n.names.length c3, .slice (some ad) n.kids.length c4, .int .i64 n.at_] 37)).heap.size ∧ w.heap.size + 1 < ((w.alloc (.cells #[.pointer (some ⟨G.a, 0, none⟩)] 68)).alloc (.cells #[.int .i64 n.kind, .int .i64 n.num, .string n.text, .slice A3 n.names.length c3, .slice (some ad) n.kids.length c4, .int .i64 n.at_] 37)).heap.size by omega)
  have HB := hid hb
  have HX := hid (h.below hb).same
  have IH := hid @ih
  have H0 := hid h
  have HZ := hid hsz
  clear hb hsz h l3 l4 f3 f4 ih
  unfold ptr
  go_enter Try.func78, Try.ntmps78
  go_upto_region 1 with fail
  generalize ((w.alloc (.cells #[.pointer (some ⟨G.a, 0, none⟩)] 68)).alloc (.cells #[.int .i64 n.kind, .int .i64 n.num, .string n.text, .slice A3 n.names.length c3, .slice (some ad) n.kids.length c4, .int .i64 n.at_] 37)) = W at *
  obtain ⟨bm, hbm⟩ : ∃ bm, bm = w.heap.size := ⟨_, rfl⟩
  obtain ⟨nb, hnb⟩ : ∃ nb, nb = w.heap.size + 1 := ⟨_, rfl⟩
  rw [← hnb] at NB NN LB ⊢
  rw [← hbm] at RM NM LB ⊢
  have HBM := hid (And.intro hbm hnb)
  clear hbm hnb
  obtain ⟨Ac, cc, c4'⟩ := HS.out.codeLen
  have cm := (cell_of_row _ _ 0 _ _ _ RM.out).trans (b := some (Value.pointer (some ⟨G.a, 0, none⟩))) rfl
  have hal := HS.out.lt.1
  have hb := (Below.refl W.heap.size W).alloc (Nat.le_refl _) (.cells #[.int .i64 S.code.length, .slice none 0 0] 123)
  have HS1 := hid (HS.out.below hb)
  have RM1 := hid ((hb.block _ LB.out.1).trans RM.out)
  have NB1 := hid (NB.out.below hb)
  have RP : Box ((W.alloc (.cells #[.int .i64 S.code.length, .slice none 0 0] 123)).heap[W.heap.size]? = some (.cells #[.int .i64 S.code.length, .slice none 0 0] 123 (0, 0))) := hid (heap_alloc_new _ _)
  have NP := hid HS.out.free
  have LB1 := hid (show bm < (W.alloc (.cells #[.int .i64 S.code.length, .slice none 0 0] 123)).heap.size ∧ nb < (W.alloc (.cells #[.int .i64 S.code.length, .slice none 0 0] 123)).heap.size ∧ W.heap.size < (W.alloc (.cells #[.int .i64 S.code.length, .slice none 0 0] 123)).heap.size by have := LB.out; simp; omega)
  have HB1 := hid (HB.out.trans (hb.mono HB.out.size))
  have LW := hid (show bm < W.heap.size ∧ nb < W.heap.size ∧ w.heap.size ≤ W.heap.size from ⟨LB.out.1, LB.out.2, HB.out.size⟩)
  clear hb HX HS RM NB LB HB
  go_upto_region 2 with fail
  clear c4' cm hal
  generalize (W.alloc (.cells #[.int .i64 S.code.length, .slice none 0 0] 123)) = W1 at *
  obtain ⟨p, hp⟩ : ∃ p, p = W.heap.size := ⟨_, rfl⟩
  have HPW := hid hp
  rw [← hp] at RP NP LB1 ⊢
  clear hp
  have HS := HS1
  have RM := RM1
  have NB := NB1
  have LB := LB1
  have HB := HB1
  clear HS1 RM1 NB1 LB1 HB1
  have cm := (cell_of_row _ _ 0 _ _ _ RM.out).trans (b := some (Value.pointer (some ⟨G.a, 0, none⟩))) rfl
  have m4 := NB.out.m4
  have q0 := NB.out.kid0 HK0.out
  have hc := IH.out H1.out (HS.out.below (below_drew (Below.refl _ _)))
  unfold ptr at hc
  have HC := hid hc
  clear hc
  refine wp_region_still_tail 5 (by kernel_rfl) (by kernel_rfl) ?_
  simp only [List.take_succ_cons, List.take_zero, List.drop_succ_cons, List.drop_zero]
  repeat still_step
  refine wpStill_nil ?_
  change wpList _ _ _ _ _ W1.drew
  go_wp2_with fail
  refine HC.out.mono ?_
  rintro e w0 ⟨rfl, hN⟩
  have HX := hid (MN.pre (below_drew (Below.refl _ _)) hN)
  clear hN HC cm m4 q0
  obtain ⟨F1, h1, k1, s1⟩ := id HX.out
  have rm1 := k1.heap RM.out NM.out
  have cm := (cell_of_row _ _ 0 _ _ _ rm1).trans (b := some (Value.pointer (some ⟨G.a, 0, none⟩))) rfl
  have hc := mput_c h1 H2.out
  unfold ptr at hc
  have HC := hid hc
  have K := hid k1
  have SS := hid s1
  clear hc h1 k1 s1 HX rm1
  go_wp2_with fail
  refine HC.out.mono ?_
  rintro e w1 ⟨rfl, hN⟩
  have HX := hid (MN.of K.out SS.out hN)
  clear hN HC K SS
  clear cm
  have hr := HR.out
  split at hr
  · rename_i t outs r hT4
    split at hr
    · rename_i hol
      obtain ⟨T5, t5, hr⟩ := Option.bind_eq_some_iff.1 hr
      have H5 := hid t5
      have H6 := hid hr
      have HOL := hid hol
      have HT4 := hid hT4
      clear t5 hr hol hT4 HR
      obtain ⟨F2, h2, k2, s2⟩ := id HX.out
      have rm2 := k2.heap RM.out NM.out
      have cm := (cell_of_row _ _ 0 _ _ _ rm2).trans (b := some (Value.pointer (some ⟨G.a, 0, none⟩))) rfl
      have b2 := NB.out.at HS.out NN.out k2
      have m4 := b2.m4
      have rp2 := k2.heap RP.out NP.out
      have hx : LvM _ [Lv.lp S.code.length []] [some p] _ := .lp rp2 (Kd.R_nil (Kd.int .i64) 3 _ 0 (fun _ => False)) id (fun _ q => q.elim) (fun _ q => q.elim) .nil
      have hpF : ¬ F2 p := fun q => (s2 _ q).elim (fun q => NP.out (.inr q)) (fun q => by have := LB.out; omega)
      have hoff : ∀ b, b < W1.heap.size → b ≠ p → ¬ MK G F b → ¬ (b = G.a ∨ F2 b ∨ (b = p ∨ False ∨ False)) := fun b q1 q2 q3 q => q.elim (fun e => q3 (.inl e)) (fun q => q.elim (fun q => (s2 _ q).elim (fun q => q3 (.inr q)) (fun q => by omega)) (fun q => q.elim q2 (fun q => q.elim id id)))
      have hbp : bm ≠ p ∧ nb ≠ p := by have := HPW.out; have := LW.out; exact ⟨by omega, by omega⟩
      have HOFF := hid hoff
      have HBP := hid hbp
      have hpc : p ≠ G.a ∧ p ≠ G.b1 ∧ p ≠ G.b2 ∧ p ≠ G.mb ∧ ¬ G.okl p := by
          have e0 := HPW.out
          have e1 := LW.out.2.2
          have e2 := H0.out.lt
          exact ⟨by omega, by omega, by omega, by omega, fun q => by have := (H0.out.offl p q).2.2; omega⟩
      have hc : Calls Try.prog 90 #[ptr G.a, .agg #[.int .i64 0, .pointer (some ⟨p, 0, none⟩)], .func (.func 92) #[] #[ptr bm, ptr nb]] _ _ := mwithin_c (x := .lp S.code.length []) (pid := some p) (S2 := T4) (S3 := ⟨T4.code, r⟩) (fun w => callFunc_ok Try.func92 (by kernel_rfl) rfl _ w) h2 H3.out (by unfold popF; rw [HT4.out]) hx (fun j q => by
          have e : j = p := q.elim id (fun q => q.elim (fun q => q.elim) (fun q => q.elim))
          subst e
          exact ⟨hpF, hpc⟩) (fun wz Fz gz kz sz => by
          have e1 : wz.heap[bm]? = _ := kz.heap rm2 (hoff _ LB.out.1 hbp.1 NM.out)
          have e2 := b2.kp kz (hoff _ LB.out.2.1 hbp.2 NN.out) (fun j q => ⟨(h2.offl j q).2.2, fun e => e.elim (h2.offl j q).1 (fun e => e.elim (h2.offl j q).2.1 (fun e => e.elim (fun e => hpc.2.2.2.2 (e ▸ q)) (fun e => e.elim id id)))⟩)
          exact whileDo_c IH.out gz ((cell_of_row _ _ 0 _ _ _ e1).trans rfl) e2 HK1.out H4.out)
      unfold ptr at hc
      have HC := hid hc
      have HM := hid h2
      have K := hid k2
      have SS := hid s2
      have RMc := hid rm2
      have HPC := hid hpc
      clear hc h2 k2 s2 HX rm2 b2 rp2 hx hpF hoff hbp hpc
      go_wp2_with fail
      refine HC.out.mono ?_
      rintro e w5 ⟨rfl, y, F5, E5, hy, hlv, h5, hd5, k5, s5, o5⟩
      rw [HT4.out] at hy
      injection hy with hy _
      subst hy
      cases hlv with
      | @lp _ _ _ vo okO _ _ _ hc5 ho5 hp5 hl5 _ hnil =>
        cases hnil
        have hs5 : ∀ j, F5 j → F j ∨ w.heap.size ≤ j := fun j q => (s5 j (.inl q)).elim (fun q => (SS.out j q).imp id (fun q => Nat.le_trans HB.out.size q)) (fun q => q.elim (fun q => .inr (by have e : j = p := q.elim id (fun q => q.elim (fun q => q.elim) (fun q => q.elim)); have := HPW.out; have := LW.out; omega)) (fun q => .inr (by have := K.out.size; have := HB.out.size; omega)))
        have hso : ∀ j, okO j → F j ∨ w.heap.size ≤ j := fun j q => (s5 j (.inr (.inr (.inl q)))).elim (fun q => (SS.out j q).imp id (fun q => Nat.le_trans HB.out.size q)) (fun q => q.elim (fun q => .inr (by have e : j = p := q.elim id (fun q => q.elim (fun q => q.elim) (fun q => q.elim)); have := HPW.out; have := LW.out; omega)) (fun q => .inr (by have := K.out.size; have := HB.out.size; omega)))
        have hnO : ∀ b, b < W1.heap.size → b ≠ p → ¬ MK G F b → ¬ okO b ∧ ¬ MK G F5 b := fun b q1 q2 q3 => by
          have big := K.out.size
          refine ⟨fun q => (s5 b (.inr (.inr (.inl q)))).elim (fun q => HOFF.out b q1 q2 q3 (.inr (.inl q))) (fun q => q.elim (fun q => HOFF.out b q1 q2 q3 (.inr (.inr q))) (fun q => by omega)), fun q => q.elim (fun e => q3 (.inl e)) (fun q => (s5 b (.inl q)).elim (fun q => HOFF.out b q1 q2 q3 (.inr (.inl q))) (fun q => q.elim (fun q => HOFF.out b q1 q2 q3 (.inr (.inr q))) (fun q => by omega)))⟩
        have NO := hid hnO
        have RM5 := hid (k5.heap RMc.out (HOFF.out _ LB.out.1 HBP.out.1 NM.out))
        have NM5 := hid (hnO _ LB.out.1 HBP.out.1 NM.out).2
        have NOm := hid (hnO _ LB.out.1 HBP.out.1 NM.out).1
        have RP5 := hid hc5
        have NP5 := hid (show ¬ MK G F5 p from fun q => q.elim (fun e => HPC.out.1 e) (fun q => hd5 p q (.inl rfl)))
        have OO := hid (fun j (q : okO j) => (⟨(o5 j (.inr (.inl q))).1, fun e => hd5 j e (.inr (.inl q)), hl5 j q, fun e => hp5 (e ▸ q), o5 j (.inr (.inl q))⟩ : j ≠ G.a ∧ ¬ F5 j ∧ j < w5.heap.size ∧ j ≠ p ∧ _))
        have RO := hid ho5
        have HS5 := hid h5
        have HX := hid h5.same
        have SB5 := hid hs5
        have SO := hid hso
        have KB5 := hid (((Kp.of_below (K := MK G F) HB.out).trans K.out (fun _ q => .inl q)).trans k5 (fun j q => q.elim (fun e => .inl (.inl e)) (fun q => q.elim (fun q => (SS.out j q).elim (fun q => .inl (.inr q)) (fun q => .inr (Nat.le_trans HB.out.size q))) (fun q => .inr (by have e : j = p := q.elim id (fun q => q.elim (fun q => q.elim) (fun q => q.elim)); have := HPW.out; have := LW.out; omega)))))
        have LB5 := hid (show bm < w5.heap.size ∧ p < w5.heap.size from ⟨(Array.getElem?_eq_some_iff.1 RM5.out).1, (Array.getElem?_eq_some_iff.1 hc5).1⟩)
        clear hc5 ho5 hp5 hl5 h5 hd5 k5 s5 o5 hs5 hso hnO K SS HM RMc HS RM NM NB NN RP NP HOFF cm m4 HC
        have cm := (cell_of_row _ _ 0 _ _ _ RM5.out).trans (b := some (Value.pointer (some ⟨G.a, 0, none⟩))) rfl
        have p0 := (cell_of_row _ _ 0 _ _ _ RP5.out).trans (b := some (Value.int .i64 t)) rfl
        have hc := mnum_c (HS5.out.below (below_drew (Below.refl _ _))) H5.out
        unfold ptr at hc
        have HC := hid hc
        clear hc HX
        go_upto_region 5 with fail
        refine wp_region_still_tail 5 (by kernel_rfl) (by kernel_rfl) ?_
        simp only [List.take_succ_cons, List.take_zero, List.drop_succ_cons, List.drop_zero]
        repeat still_step
        refine wpStill_nil ?_
        change wpList _ _ _ _ _ w5.drew
        go_wp2_with fail
        refine HC.out.mono ?_
        rintro e w6 ⟨rfl, hN⟩
        obtain ⟨F6, h6, k6, s6⟩ := MN.pre (below_drew (Below.refl _ _)) hN
        clear hN HC cm p0
        have rm6 := k6.heap RM5.out NM5.out
        have rp6 := k6.heap RP5.out NP5.out
        have cm := (cell_of_row _ _ 0 _ _ _ rm6).trans (b := some (Value.pointer (some ⟨G.a, 0, none⟩))) rfl
        have p1 := (cell_of_row _ _ 1 _ _ _ rp6).trans (b := some vo) rfl
        have ro6 := Kd.R_step RO.out (fun j q _ => k6.block j (OO.out j q).2.2.1 (fun e => e.elim (OO.out j q).1 (OO.out j q).2.1))
        obtain ⟨jy, hjy⟩ : ∃ jy, jy = T1.code.length := ⟨_, rfl⟩
        rw [← hjy] at H6
        have HO6 := hid (fun j (q : okO j) => (⟨(OO.out j q).1, fun e => (s6 j e).elim (OO.out j q).2.1 (fun e => by have := (OO.out j q).2.2.1; omega), Nat.lt_of_lt_of_le (OO.out j q).2.2.1 k6.size, (OO.out j q).2.2.2⟩ : j ≠ G.a ∧ ¬ F6 j ∧ j < w6.heap.size ∧ _))
        have N1 := hid (show vo.ownBlock ≠ some bm from fun e => NOm.out (RO.out.1 _ e))
        have N2 := hid (show vo.ownBlock ≠ some p from fun e => (OO.out _ (RO.out.1 _ e)).2.2.2.1 rfl)
        obtain ⟨ok2, hok2⟩ : ∃ ok2 : Nat → Prop, ok2 = fun k => okO k ∨ w6.heap.size ≤ k := ⟨_, rfl⟩
        have HOK := hid hok2
        clear hok2
        have HF : Box (∀ k, w6.drew.heap.size ≤ k → ok2 k) := hid (fun k hk => by rw [HOK.out]; exact .inr hk)
        have HN : Box ((Kd.int .i64).R 3 w6.drew 0 ok2 vo (ints outs)) := hid (Kd.R_drew (Kd.R_mono ro6 (fun k hk => by rw [HOK.out]; exact .inl hk)))
        have H6M := hid h6
        have K6 := hid k6
        have S6 := hid s6
        clear h6 k6 s6 rm6 rp6 ro6
        go_upto_region 6 with fail
        rw [← hjy]
        clear hjy
        refine wp_region_until [8] (S := (fun w' => w'.cell? ⟨bm, 0, none⟩ = some (.pointer (some ⟨G.a, 0, none⟩)) ∧ w'.cell? ⟨p, 1, none⟩ = some (vo))) (by kernel_rfl) ?_ ?_
        · go_keep
        intro hS
        refine wpAnyU_take (i := 0) (v := (.pointer (some ⟨G.a, 0, none⟩))) rfl (by kernel_rfl) (fun _ _ _ h => h) (leads_of [[8]] (by kernel_rfl)) (by kernel_rfl) (by kernel_rfl) (by kernel_rfl) (Or.inl ⟨by rfl, ?_⟩) hS ?_
        · intro w' hS'
          obtain ⟨s0, s1⟩ := hS'
          go_simp
        change wpAnyU _ _ _ _ _ _ _ _ (Act.put _ (some 33) _) _
        simp only [Act.put, List.setIfInBounds_toArray, List.set_cons_succ, List.set_cons_zero]
        refine wpAnyU_take (i := 1) (v := (.pointer (some ⟨p, 0, none⟩))) rfl (by kernel_rfl) (fun _ _ _ h => h) (leads_of [[2, 3, 4, 7, 8]] (by kernel_rfl)) (by kernel_rfl) (by kernel_rfl) (by kernel_rfl) (Or.inl ⟨by rfl, ?_⟩) hS ?_
        · intro w' hS'
          obtain ⟨s0, s1⟩ := hS'
          go_simp
        change wpAnyU _ _ _ _ _ _ _ _ (Act.put _ (some 34) _) _
        simp only [Act.put, List.setIfInBounds_toArray, List.set_cons_succ, List.set_cons_zero]
        refine wpAnyU_take (i := 2) (v := (.pointer (some ⟨p, 0, none⟩))) rfl (by kernel_rfl) (fun _ _ _ h => h) (leads_of [[3, 4, 7, 8]] (by kernel_rfl)) (by kernel_rfl) (by kernel_rfl) (by kernel_rfl) (Or.inl ⟨by rfl, ?_⟩) hS ?_
        · intro w' hS'
          obtain ⟨s0, s1⟩ := hS'
          go_simp
        change wpAnyU _ _ _ _ _ _ _ _ (Act.put _ (some 35) _) _
        simp only [Act.put, List.setIfInBounds_toArray, List.set_cons_succ, List.set_cons_zero]
        refine wpAnyU_take (i := 3) (v := (.pointer (some ⟨p, 1, none⟩))) rfl (by kernel_rfl) (fun _ _ _ h => h) (leads_of [[4, 7, 8]] (by kernel_rfl)) (by kernel_rfl) (by kernel_rfl) (by kernel_rfl) (Or.inl ⟨by rfl, ?_⟩) hS ?_
        · intro w' hS'
          obtain ⟨s0, s1⟩ := hS'
          go_simp
        change wpAnyU _ _ _ _ _ _ _ _ (Act.put _ (some 36) _) _
        simp only [Act.put, List.setIfInBounds_toArray, List.set_cons_succ, List.set_cons_zero]
        refine wpAnyU_take (i := 4) (v := (vo)) rfl (by kernel_rfl) (fun _ _ _ h => h) (leads_of [[7, 8]] (by kernel_rfl)) (by kernel_rfl) (by kernel_rfl) (by kernel_rfl) (Or.inl ⟨by rfl, ?_⟩) hS ?_
        · intro w' hS'
          obtain ⟨s0, s1⟩ := hS'
          go_simp
        change wpAnyU _ _ _ _ _ _ _ _ (Act.put _ (some 37) _) _
        simp only [Act.put, List.setIfInBounds_toArray, List.set_cons_succ, List.set_cons_zero]
        refine wpAnyU_take (i := 5) (v := (.int .i64 (jy : Nat))) rfl (by kernel_rfl) (fun _ _ _ h => h) (leads_of [[6, 7, 8]] (by kernel_rfl)) (by kernel_rfl) (by kernel_rfl) (by kernel_rfl) (Or.inl ⟨by rfl, ?_⟩) hS ?_
        · intro w' hS'
          obtain ⟨s0, s1⟩ := hS'
          go_simp
        change wpAnyU _ _ _ _ _ _ _ _ (Act.put _ (some 38) _) _
        simp only [Act.put, List.setIfInBounds_toArray, List.set_cons_succ, List.set_cons_zero]
        refine wpAnyU_all (rs := [6]) (by kernel_rfl) (by simp) ?_
        intro j hj
        obtain rfl := List.mem_singleton.1 hj
        clear hj
        refine wpOp_shut rfl (fun K' HK => ?_)
        go_simp
        have HB6 := hid (below_alloc (Below.refl w6.drew.heap.size w6.drew) (.cells #[.int .i64 jy] 3))
        refine HK.out _ _ ⟨.inr ?_, ?_⟩
        · exact ⟨keepc HB6.out cm, keepc HB6.out p1⟩
        clear HK K'
        have hS := And.intro (keepc HB6.out cm) (keepc HB6.out p1)
        try simp only [Act.put, List.setIfInBounds_toArray, List.set_cons_succ, List.set_cons_zero]
        refine wpAnyU_all (rs := [7]) (by kernel_rfl) (by simp) ?_
        intro j hj
        obtain rfl := List.mem_singleton.1 hj
        clear hj
        refine wpOp_shut rfl (fun K' HK => ?_)
        refine R_step_any (Kd.int .i64) (w0 := w6) (W := w6.drew) 0 ?h0 (.tmp 37) (.tmp 39) 35 3 (.int .i64 0) 8 ?h1 Try.underlying35 infoInt8 rfl (by decide) (by decide) vo (ints outs) (jy : Int) [.int .i64 jy] ok2 (fun _ => False) ?c1 ?c2 ?c3 ?c4 ?c5 ?c6 ?c7 ?c8 ?c9 ?c10
        (case h0 => rfl)
        (case h1 => rfl)
        (case c1 => rfl)
        (case c2 => rfl)
        (case c3 => rfl)
        (case c4 => exact fun k hk => hk.elim)
        (case c5 => exact HF.out)
        (case c6 => exact HN.out)
        (case c7 => exact (Below.refl 0 w6).drew)
        (case c8 => exact Nat.zero_le _)
        (case c9 => have := HOL.out; rw [ints_length]; omega)
        intro v1 w7 hN7 _ hg7 _
        rw [show ints outs ++ [(jy : Int)] = ints (outs ++ [jy]) by simp [ints]] at hN7
        obtain ⟨A1, cap1, rfl⟩ := Kd.R_slice hN7
        have HN7 := hid hN7
        have HG7 := hid hg7
        clear hN7 hg7
        have z0 := keepg HG7.out N1.out cm
        have z1 := keepg HG7.out N2.out p1
        refine HK.out _ _ ⟨.inr ?_, ?_⟩
        · exact ⟨z0, z1⟩
        clear HK K'
        have hS := And.intro (z0) (z1)
        change wpAnyU _ _ _ _ _ _ _ _ (Act.put _ (some 40) _) _
        simp only [Act.put, List.setIfInBounds_toArray, List.set_cons_succ, List.set_cons_zero]
        refine wpAnyU_all (rs := [8]) (by kernel_rfl) (by simp) ?_
        intro j hj
        obtain rfl := List.mem_singleton.1 hj
        clear hj
        refine wpOp_shut rfl (fun K' HK => ?_)
        refine step_call rfl (f := 81) rfl Try.func81 (by kernel_rfl) rfl #[.pointer (some ⟨G.a, 0, none⟩), .slice A1 (ints (outs ++ [jy])).length cap1] (by simp only [List.map_toArray, List.map_cons, List.map_nil]; rfl) ?_
        have kg : Kp (fun j => okO j) w6 w7 := ((Kp.of_below (below_drew (Below.refl _ _))).trans (Kp.grown (K := fun j => okO j) (w := w6.drew) HG7.out (fun j e => RO.out.1 j e)) (fun _ q => .inl q))
        have h7 := H6M.out.kp kg ⟨fun q => (HO6.out _ q).1 rfl, fun q => (HO6.out _ q).2.2.2.2.2.1 rfl, fun q => (HO6.out _ q).2.2.2.2.2.2.1 rfl, fun q => (HO6.out _ q).2.2.2.2.2.2.2.1 rfl⟩ (fun j q e => (HO6.out j e).2.2.2.2.2.2.2.2.1 q) (fun j q e => (HO6.out j e).2.1 q)
        have hF7 := Kd.N_F (Kd.R_N (Kd.R_mono (Kd.R_bound HN7.out) (fun j q => (⟨q.1, q.2.2.1⟩ : ok2 j ∧ j < w7.heap.size))))
        rw [ints_length] at hF7 ⊢
        have hc := here_c (c := cap1) h7 H6.out hF7 (fun j q => by
          obtain ⟨q1, q2⟩ := q
          rw [HOK.out] at q1
          rcases q1 with q1 | q1
          · exact ⟨(HO6.out j q1).1, (HO6.out j q1).2.1, q2⟩
          · exact ⟨fun e => by have := H6M.out.lt.1; omega, fun e => by have := (H6M.out.off j e).2.2.2.2.2; omega, q2⟩)
        unfold ptr at hc
        refine hc.mono ?_
        clear hc hF7 h7
        rintro e w8 ⟨rfl, F8, h8, k8, s8⟩
        refine ⟨_, rfl, ?_⟩
        have HFIN := hid (show MN G w F ids w8 S' from ⟨F8, h8, ((KB5.out.trans K6.out (fun j q => q.elim (fun e => .inl (.inl e)) (fun q => (SB5.out j q).imp .inr id))).trans kg (fun j q => (SO.out j q).imp .inr id)).trans k8 (fun j q => q.elim (fun e => .inl (.inl e)) (fun q => (S6.out j q).elim (fun q => (SB5.out j q).imp .inr id) (fun q => .inr (Nat.le_trans KB5.out.size q)))), fun j q => (s8 j q).elim (fun q => (S6.out j q).elim (SB5.out j) (fun q => .inr (Nat.le_trans KB5.out.size q))) (fun q => .inr (by have := kg.size; have := K6.out.size; have := KB5.out.size; omega))⟩)
        clear h8 k8 s8 kg
        refine HK.out _ _ ⟨.inl (by decide), ?_⟩
        clear HK K'
        change wpAnyU _ _ _ _ _ _ _ _ (Act.put _ (some 41) _) _
        simp only [Act.put, List.setIfInBounds_toArray, List.set_cons_succ, List.set_cons_zero]
        refine wpAnyU_done (by kernel_rfl) ?_ _
        go_wp2_with fail
        exact bodyPost_end (results_none rfl _ _ _) rfl ⟨rfl, HFIN.out⟩
    · cases hr
  · cases hr
end
end Go.Proofs.Ytibepkblgliooaa.Q
namespace Go.Proofs.Ytibepkblgliooaa.Q
open Go.RowKit
open Go.Proofs.YtibepkblgliooaaW.PrintWords
theorem addOut_row {j : Nat} : ∀ {L o : List Lv} {ids : List (Option Nat)}, addOut j L = some o → lvRow o ids = lvRow L ids
  | [], o, ids, h => by cases h; rfl
  | .lp t os :: r, o, ids, h => by
    unfold addOut at h
    split at h
    · obtain rfl := Option.some.inj h
      cases ids with
      | nil => rfl
      | cons i ids => simp [lvRow, lvE]
    · cases h
  | .lv op :: r, o, ids, h => by
    obtain ⟨r', hr, rfl⟩ := Option.map_eq_some_iff.1 h
    cases ids with
    | nil => simp [lvRow]
    | cons i ids => rw [lvRow_cons, lvRow_cons, addOut_row hr]
theorem addOut_none {w : World} {f : Nat → Prop} {j : Nat} {L : List Lv} {ids : List (Option Nat)} (h : LvM w L ids f) : idF L ids = none → addOut j L = some L ∧ topF L = 0 := by
  induction h with
  | nil => exact fun _ => ⟨rfl, rfl⟩
  | lv _ ih => exact fun e => ⟨by unfold addOut; rw [(ih e).1]; rfl, (ih e).2⟩
  | lp _ _ _ _ _ _ _ => exact fun e => by cases e
/-- The next loop. -/
theorem LvM.loop {w : World} {f : Nat → Prop} {p : Nat} {L : List Lv} {ids : List (Option Nat)} (h : LvM w L ids f) : idF L ids = some p → ∃ top outs vo okO, w.heap[p]? = some (.cells #[.int .i64 (top : Nat), vo] 123 (0, 0)) ∧ (Kd.int .i64).R 3 w 0 okO vo (ints outs) ∧ ¬ okO p ∧ (∀ k, okO k → k < w.heap.size) ∧ f p ∧ (∀ k, okO k → f k) ∧ topF L = (top : Int) ∧
    ∀ j o, addOut j L = some o → outs.length < 1048576 ∧ ∀ (w' : World) (v1 : Value) (ok' : Nat → Prop), w.heap.size ≤ w'.heap.size → w'.heap[p]? = some (.cells #[.int .i64 top, v1] 123 (0, 0)) → (Kd.int .i64).R 3 w' 0 ok' v1 (ints (outs ++ [j])) → ¬ ok' p → (∀ k, ok' k → (okO k ∨ w.heap.size ≤ k) ∧ k < w'.heap.size) → (∀ k, f k → k ≠ p → ¬ okO k → w'.heap[k]? = w.heap[k]?) →
      ∃ f', LvM w' o ids f' ∧ ∀ k, f' k → f k ∨ ok' k := by
  induction h with
  | nil => exact fun e => by cases e
  | lv h ih =>
    intro e
    obtain ⟨top, outs, vo, okO, a1, a2, a3, a4, a5, a6, a7, a8⟩ := ih e
    refine ⟨top, outs, vo, okO, a1, a2, a3, a4, a5, a6, a7, fun j o ho => ?_⟩
    obtain ⟨r', hr, rfl⟩ := Option.map_eq_some_iff.1 ho
    obtain ⟨b1, b2⟩ := a8 j r' hr
    refine ⟨b1, fun w' v1 ok' c1 c2 c3 c4 c5 c6 => ?_⟩
    obtain ⟨f', d1, d2⟩ := b2 w' v1 ok' c1 c2 c3 c4 c5 c6
    exact ⟨f', .lv d1, d2⟩
  | @lp p0 top outs vo ok r ids f hc ho hp hl hf h _ =>
    intro e
    obtain rfl : p0 = p := Option.some.inj e
    refine ⟨top, outs, vo, ok, hc, ho, hp, hl, .inl rfl, fun k q => .inr (.inl q), rfl, fun j o hao => ?_⟩
    unfold addOut at hao
    split at hao
    · rename_i hlen
      obtain rfl := Option.some.inj hao
      refine ⟨hlen, fun w' v1 ok' c1 c2 c3 c4 c5 c6 => ⟨fun k => k = p0 ∨ ok' k ∨ f k, .lp c2 c3 c4 (fun k q => (c5 k q).2) (fun k q => ⟨(hf k q).1, fun e => (c5 k e).1.elim (hf k q).2 (fun e => by have := h.lt k q; omega)⟩) (h.step c1 (fun k q => c6 k (.inr (.inr q)) (hf k q).1 (hf k q).2)), fun k q => ?_⟩⟩
      rcases q with q | q | q
      · exact .inl (.inl q)
      · exact .inr q
      · exact .inl (.inr (.inr q))
    · cases hao
section
variable {G : MG} {w w' : World} {F okc oko f f' okO : Nat → Prop} {ids : List (Option Nat)} {S : Mk} {cv ov : Value} {p j : Nat} {o : List Lv}
/-- A loop has one jump more. -/
theorem MSi.addOut (h : MSi G w F ids S okc cv oko ov f) (hk : Kp (fun k => k = p ∨ okO k) w w') (hp : f p) (ho : ∀ k, okO k → f k) (ha : Q.addOut j S.opn = some o) (hl : LvM w' o ids f') (hf' : ∀ k, f' k → f k ∨ w.heap.size ≤ k) : MS G w' (fun k => (F k ∨ w.heap.size ≤ k) ∧ k < w'.heap.size) ids { S with opn := o } := by
  have hs := hk.size
  have hlt := h.lt
  have hF : ∀ k, F k → k < w.heap.size := fun k q => (h.off k q).2.2.2.2.2
  have inf : ∀ k, (k = p ∨ okO k) → f k := fun k q => q.elim (fun e => e ▸ hp) (ho k)
  have nc : ∀ k, (k = p ∨ okO k) → k ≠ G.a ∧ k ≠ G.b1 ∧ k ≠ G.b2 ∧ k ≠ G.mb ∧ ¬ G.okl k ∧ k < w.heap.size := fun k q => h.off k (h.ff k (inf k q))
  have keep : ∀ k, k < w.heap.size → ¬ f k → w'.heap[k]? = w.heap[k]? := fun k q1 q2 => hk.block k q1 (fun e => q2 (inf k e))
  have nf : ∀ {k}, ¬ F k → ¬ f k := fun q e => q (h.ff _ e)
  refine ⟨okc, cv, oko, ov, f', ⟨hk.heap h.cell (fun e => (nc _ e).1 rfl), Kd.N_kept h.nodes hk.kept (fun k q e => (nc k e).2.2.2.2.1 q), hk.heap h.sp (fun e => (nc _ e).2.1 rfl), hk.heap h.sl (fun e => (nc _ e).2.2.1 rfl), h.mp.block (hk.block _ h.ne.2.2.2 (fun e => (nc _ e).2.2.2.1 rfl)), Kd.R_step h.code (fun k q q2 => keep k q2 (h.fc k q).2.2), ?_, hl, h.lens, fun k q => ⟨⟨.inl (h.fc k q).1, by have := hF k (h.fc k q).1; omega⟩, (h.fc k q).2.1, fun e => (hf' k e).elim (h.fc k q).2.2 (fun e => by have := hF k (h.fc k q).1; omega)⟩, fun k q => ⟨⟨.inl (h.fo k q).1, by have := hF k (h.fo k q).1; omega⟩, fun e => (hf' k e).elim (h.fo k q).2 (fun e => by have := hF k (h.fo k q).1; omega)⟩, fun k q => ⟨(hf' k q).imp (h.ff k) id, hl.lt k q⟩, ?_, fun k q => ⟨(h.offl k q).1, Nat.lt_of_lt_of_le (h.offl k q).2 hs⟩, ⟨h.ne.1, h.ne.2.1, h.ne.2.2.1, Nat.lt_of_lt_of_le h.ne.2.2.2 hs⟩⟩⟩
  · rw [addOut_row ha]
    exact Kd.R_step h.opn (fun k q q2 => keep k q2 (h.fo k q).2)
  · rintro k ⟨q, q2⟩
    rcases q with q | q
    · obtain ⟨a1, a2, a3, a4, a5, _⟩ := h.off k q
      exact ⟨a1, a2, a3, a4, a5, q2⟩
    · exact ⟨by omega, by omega, by omega, by have := h.ne.2.2.2; omega, fun e => by have := (h.offl k e).2; omega, q2⟩
/-- What a jump out of the next loop needs, and what comes of it; w1: behind out, w0: ahead of it. -/
def BrkD (G : MG) (w0 w1 : World) (F1 : Nat → Prop) (ids : List (Option Nat)) (okc oko f : Nat → Prop) (ov : Value) (p : Nat) (T2 : Mk) (o : List Lv) (jy : Nat) (top : Nat) (outs : List Nat) (vo : Value) (okO : Nat → Prop) : Prop :=
  w1.heap[p]? = some (.cells #[.int .i64 (top : Nat), vo] 123 (0, 0)) ∧ (Kd.int .i64).R 3 w1 0 okO vo (ints outs) ∧ ¬ okO p ∧ (∀ k, okO k → k < w1.heap.size ∧ k ≠ G.a ∧ ¬ okc k ∧ F1 k) ∧ (p ≠ G.a ∧ ¬ okc p ∧ (F1 p ∨ w0.heap.size ≤ p)) ∧ outs.length < 1048576 ∧
    ∀ (w2 w' : World) (F2 okc' : Nat → Prop) (cv' v1 : Value) (ok' : Nat → Prop), MSi G w2 F2 ids T2 okc' cv' oko ov f → Kp (fun k => k = G.a ∨ okc k) w1 w2 → (∀ k, F2 k → F1 k ∨ w1.heap.size ≤ k) → Kp (fun k => k = p ∨ okO k) w2 w' → w'.heap[p]? = some (.cells #[.int .i64 top, v1] 123 (0, 0)) →
      (Kd.int .i64).R 3 w' 0 ok' v1 (ints (outs ++ [jy])) → ¬ ok' p → (∀ k, ok' k → (okO k ∨ w2.heap.size ≤ k) ∧ k < w'.heap.size) → ∃ F', MS G w' F' ids { T2 with opn := o } ∧ ∀ k, F' k → F2 k ∨ w2.heap.size ≤ k
theorem brkD {w0 w1 : World} {F0 F1 : Nat → Prop} {ids0 : List (Option Nat)} {T0 T1 T2 : Mk} {jy : Nat} (h0 : MS G w0 F0 ids0 T0) (h : MSi G w1 F1 ids T1 okc cv oko ov f) (hp : OutP w0 w1 G F1 (idF T1.opn ids) p) (ha : Q.addOut jy T2.opn = some o) (ht : T2.opn = T1.opn) : ∃ top outs vo okO, BrkD G w0 w1 F1 ids okc oko f ov p T2 o jy top outs vo okO := by
  cases hi : idF T1.opn ids with
  | some q =>
    rw [hi] at hp
    obtain rfl : p = q := hp
    obtain ⟨top, outs, vo, okO, a1, a2, a3, a4, a5, a6, _, a8⟩ := h.lps.loop hi
    obtain ⟨b1, b2⟩ := a8 jy o (by rw [← ht]; exact ha)
    have nf : ∀ k, f k → k ≠ G.a ∧ ¬ okc k := fun k q => ⟨(h.off k (h.ff k q)).1, fun e => (h.fc k e).2.2 q⟩
    refine ⟨top, outs, vo, okO, a1, a2, a3, fun k q => ⟨a4 k q, (nf k (a6 k q)).1, (nf k (a6 k q)).2, h.ff k (a6 k q)⟩, ⟨(nf p a5).1, (nf p a5).2, .inl (h.ff p a5)⟩, b1, ?_⟩
    intro w2 w' F2 okc' cv' v1 ok' h2 k2 s2 k3 c2 c3 c4 c5
    obtain ⟨f', d1, d2⟩ := b2 w' v1 ok' (Nat.le_trans k2.size k3.size) c2 c3 c4 (fun k q => ⟨(c5 k q).1.imp id (fun e => Nat.le_trans k2.size e), (c5 k q).2⟩) (fun k q1 q2 q3 => (k3.block k (Nat.lt_of_lt_of_le (h.lps.lt k q1) k2.size) (fun e => e.elim q2 q3)).trans (k2.block k (h.lps.lt k q1) (fun e => e.elim (nf k q1).1 (nf k q1).2)))
    exact ⟨_, h2.addOut k3 a5 a6 ha d1 (fun k q => (d2 k q).elim .inl (fun q => (c5 k q).1.imp (a6 k) id)), fun k q => q.1⟩
  | none =>
    rw [hi] at hp
    obtain ⟨c1, c2, c3, c4⟩ := hp
    obtain ⟨e1, _⟩ := addOut_none (j := jy) h.lps hi
    rw [ht, e1] at ha
    obtain rfl := Option.some.inj ha
    refine ⟨0, [], .slice none 0 0, fun _ => False, c1, Kd.R_nil _ _ _ _ _, id, fun _ q => q.elim, ⟨c3, fun e => c2 (h.fc p e).1, .inr c4⟩, by decide, ?_⟩
    intro w2 w' F2 okc' cv' v1 ok' h2 k2 s2 k3 _ _ _ _
    have hpl := (Array.getElem?_eq_some_iff.1 c1).1
    have l0 := h0.lt
    have e : ({ T2 with opn := T1.opn } : Mk) = T2 := by rw [← ht]
    rw [e]
    refine ⟨F2, MS.kp (S := T2) ⟨_, _, _, _, _, h2⟩ k3 ⟨fun q => q.elim (fun e => c3 e.symm) id, fun q => q.elim (fun e => by omega) id, fun q => q.elim (fun e => by omega) id, fun q => q.elim (fun e => by omega) id⟩ (fun k q e => e.elim (fun e => by have := (h0.offl k q).2.2; omega) id) (fun k q e => e.elim (fun e => (s2 k q).elim (fun q => c2 (e ▸ q)) (fun q => by omega)) id), fun _ q => .inl q⟩
end
end Go.Proofs.Ytibepkblgliooaa.Q
