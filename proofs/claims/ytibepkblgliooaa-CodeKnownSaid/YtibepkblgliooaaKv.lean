/- What a proof further on needs (part v). -/
import Derived.Test.YtibepkblgliooaaKu
set_option linter.unusedVariables false
namespace Go.Proofs.Ytibepkblgliooaa.Q
open Go.RowKit
open Go.Proofs.YtibepkblgliooaaW.PrintWords
section
variable {G : MG} {w w' : World} {F : Nat → Prop} {ids : List (Option Nat)} {S S' : Mk} {n : Nd} {A3 A4 : Option Addr} {c3 c4 m k : Nat}
/-- statement, whole. -/
theorem stm_c {o : Option Mk} (h : MS G w F ids S) (hn : G.l[k]? = some n) (ih : NodeOk G m) (hr : stmM G.l G.spots G.slots G.funs (nodeM G.l G.spots G.slots G.funs m) k n S = some o) :
    Calls Try.prog 56 #[ptr G.a, .int .i64 k] w fun e w' => e = .returned (.bool o.isSome) ∧ MN G w F ids w' (o.getD S) := by
  unfold stmM at hr
  by_cases g21 : n.kind = 21 ∨ n.kind = 22
  · have g := g21
    rw [if_pos g21] at hr
    obtain ⟨T1, t1, hr⟩ := Option.bind_eq_some_iff.1 hr
    obtain ⟨sp, t2, hr⟩ := Option.bind_eq_some_iff.1 hr
    obtain ⟨T2, t3, rfl⟩ := Option.map_eq_some_iff.1 hr
    have q : ((allM (nodeM G.l G.spots G.slots G.funs m) n.kids S).bind fun S1 => (G.spots[k]?).bind fun sp => S1.put (iN 9 sp.slot)) = some T2 := by rw [t1, Option.bind_some, t2, Option.bind_some, t3]
    rcases g with g | g
    · exact stm_let21 h hn ih (hid g) q
    · exact stm_let22 h hn ih (hid g) q
  rw [if_neg g21] at hr
  by_cases g23 : n.kind = 23
  · have g := g23
    rw [if_pos g23] at hr
    obtain rfl := Option.some.inj hr
    exact stm_def h hn ih (hid g) rfl
  rw [if_neg g23] at hr
  by_cases g24 : n.kind = 24
  · have g := g24
    rw [if_pos g24] at hr
    obtain ⟨T1, t1, hr⟩ := Option.bind_eq_some_iff.1 hr
    obtain ⟨T2, t3, rfl⟩ := Option.map_eq_some_iff.1 hr
    exact stm_expr h hn ih (hid g) (by rw [t1, Option.bind_some, t3]; rfl)
  rw [if_neg g24] at hr
  by_cases g25 : n.kind = 25
  · have g := g25
    rw [if_pos g25] at hr
    obtain ⟨T2, t3, rfl⟩ := Option.map_eq_some_iff.1 hr
    exact stm_block h hn ih (hid g) t3
  rw [if_neg g25] at hr
  by_cases g26 : n.kind = 26
  · have g := g26
    rw [if_pos g26] at hr
    obtain ⟨T2, t3, rfl⟩ := Option.map_eq_some_iff.1 hr
    exact stm_if h hn ih (hid g) t3
  rw [if_neg g26] at hr
  by_cases g27 : n.kind = 27
  · have g := g27
    rw [if_pos g27] at hr
    obtain ⟨T2, t3, rfl⟩ := Option.map_eq_some_iff.1 hr
    exact stm_while h hn ih (hid g) t3
  rw [if_neg g27] at hr
  by_cases g28 : n.kind = 28
  · have g := g28
    rw [if_pos g28] at hr
    obtain ⟨T1, t1, hr⟩ := Option.bind_eq_some_iff.1 hr
    obtain ⟨T2, t2, hr⟩ := Option.bind_eq_some_iff.1 hr
    obtain ⟨L, t3, rfl⟩ := Option.map_eq_some_iff.1 hr
    exact stm_break h hn ih (hid g) (by rw [t1, Option.bind_some, t2, Option.bind_some, t3]; rfl)
  rw [if_neg g28] at hr
  by_cases g29 : n.kind = 29
  · have g := g29
    rw [if_pos g29] at hr
    obtain ⟨T1, t1, hr⟩ := Option.bind_eq_some_iff.1 hr
    obtain ⟨T2, t3, rfl⟩ := Option.map_eq_some_iff.1 hr
    exact stm_next h hn ih (hid g) (by rw [t1, Option.bind_some, t3]; rfl)
  rw [if_neg g29] at hr
  by_cases g30 : n.kind = 30
  · have g := g30
    rw [if_pos g30] at hr
    obtain ⟨T0, t0, hr⟩ := Option.bind_eq_some_iff.1 hr
    obtain ⟨T1, t1, hr⟩ := Option.bind_eq_some_iff.1 hr
    obtain ⟨T2, t3, rfl⟩ := Option.map_eq_some_iff.1 hr
    split at t0
    · rename_i gz
      exact stm_ret0 h hn ih (hid g) (hid gz) (by rw [t0, Option.bind_some, t1, Option.bind_some, t3]; rfl)
    · rename_i gz
      obtain rfl := Option.some.inj t0
      exact stm_ret1 h hn ih (hid g) (hid gz) (by rw [t1, Option.bind_some, t3]; rfl)
  rw [if_neg g30] at hr
  by_cases g31 : n.kind = 31
  · have g := g31
    rw [if_pos g31] at hr
    obtain ⟨T1, t1, hr⟩ := Option.bind_eq_some_iff.1 hr
    obtain ⟨T2, t3, rfl⟩ := Option.map_eq_some_iff.1 hr
    exact stm_throw h hn ih (hid g) (by rw [t1, Option.bind_some, t3]; rfl)
  rw [if_neg g31] at hr
  by_cases g32 : n.kind = 32
  · have g := g32
    rw [if_pos g32] at hr
    obtain ⟨T2, t3, rfl⟩ := Option.map_eq_some_iff.1 hr
    exact stm_try h hn ih (hid g) t3
  rw [if_neg g32] at hr
  obtain rfl := Option.some.inj hr
  exact stm_none h hn (hid (by omega))
set_option maxHeartbeats 3200000 in
set_option maxRecDepth 100000 in
theorem node_lit (h : MS G w F ids S) (hn : G.l[k]? = some n) (ih : NodeOk G m) (hl : litM n S = some (some S')) :
    Calls Try.prog 46 #[ptr G.a, .int .i64 k] w fun e w' => e = .returned (.tuple #[]) ∧ MN G w F ids w' S' := by
  obtain ⟨A3, c3, A4, c4, hkl, n0, n1, n2, n3, n4, n5, nb, l3, f3, l4, f4⟩ := h.box hn
  have hkl' : (k : Int) < (G.l.length : Int) := by omega
  have g0 := h.c0
  have hal := h.lt.1
  have hgl := cell_lt n0
  dsimp only at hgl
  have hb := (Below.refl w.heap.size w).alloc (Nat.le_refl _) (.cells #[.int .i64 n.kind, .int .i64 n.num, .string n.text, .slice A3 n.names.length c3, .slice A4 n.kids.length c4, .int .i64 n.at_] 37)
  have NB := hid (show NBx G (w.alloc (.cells #[.int .i64 n.kind, .int .i64 n.num, .string n.text, .slice A3 n.names.length c3, .slice A4 n.kids.length c4, .int .i64 n.at_] 37)) w.heap.size n A3 c3 A4 c4 from nb)
  have HS0 := hid (h.below hb)
  have HN0 := hid h.free
  have HX := hid (h.below hb).same
  have HB := hid hb
  have IH := hid @ih
  have HNN := hid hn
  clear hb nb l3 f3 l4 f4 h ih hn
  unfold ptr
  go_enter Try.func46, Try.ntmps46
  go_upto_region 1 with fail
  clear n0 n1 n2 n3 n4 n5 g0 hal hgl
  generalize w.alloc (.cells #[.int .i64 n.kind, .int .i64 n.num, .string n.text, .slice A3 n.names.length c3, .slice A4 n.kids.length c4, .int .i64 n.at_] 37) = W at *
  obtain ⟨F1, h1, k1, s1⟩ := id HX.out
  have b1 := NB.out.at HS0.out HN0.out k1
  have m0 := b1.m0
  have m1 := b1.m1
  have m2 := b1.m2
  have m3 := b1.m3
  have m4 := b1.m4
  have m5 := b1.m5
  have hc := literal_c h1 b1.l3 b1.f3 b1.l4 b1.f4 hl
  simp only [Option.isSome_some, Option.getD_some] at hc
  unfold ptr at hc
  have HC := hid hc
  have K := hid k1
  have SS := hid s1
  clear hc h1 k1 s1 b1 HX hl
  go_wp2_with fail
  refine HC.out.mono ?_
  rintro e w1 ⟨rfl, hN⟩
  have HX := hid (MN.of K.out SS.out hN)
  clear hN HC K SS m0 m1 m2 m3 m4 m5
  go_wp2_with fail
  exact bodyPost_ret (results_none rfl _ _ _) rfl ⟨rfl, MN.pre HB.out HX.out⟩
set_option maxHeartbeats 3200000 in
set_option maxRecDepth 100000 in
theorem node_stm (h : MS G w F ids S) (hn : G.l[k]? = some n) (ih : NodeOk G m) (hl : litM n S = some none) (hs : stmM G.l G.spots G.slots G.funs (nodeM G.l G.spots G.slots G.funs m) k n S = some (some S')) :
    Calls Try.prog 46 #[ptr G.a, .int .i64 k] w fun e w' => e = .returned (.tuple #[]) ∧ MN G w F ids w' S' := by
  obtain ⟨A3, c3, A4, c4, hkl, n0, n1, n2, n3, n4, n5, nb, l3, f3, l4, f4⟩ := h.box hn
  have hkl' : (k : Int) < (G.l.length : Int) := by omega
  have g0 := h.c0
  have hal := h.lt.1
  have hgl := cell_lt n0
  dsimp only at hgl
  have hb := (Below.refl w.heap.size w).alloc (Nat.le_refl _) (.cells #[.int .i64 n.kind, .int .i64 n.num, .string n.text, .slice A3 n.names.length c3, .slice A4 n.kids.length c4, .int .i64 n.at_] 37)
  have NB := hid (show NBx G (w.alloc (.cells #[.int .i64 n.kind, .int .i64 n.num, .string n.text, .slice A3 n.names.length c3, .slice A4 n.kids.length c4, .int .i64 n.at_] 37)) w.heap.size n A3 c3 A4 c4 from nb)
  have HS0 := hid (h.below hb)
  have HN0 := hid h.free
  have HX := hid (h.below hb).same
  have HB := hid hb
  have IH := hid @ih
  have HNN := hid hn
  clear hb nb l3 f3 l4 f4 h ih hn
  unfold ptr
  go_enter Try.func46, Try.ntmps46
  go_upto_region 1 with fail
  clear n0 n1 n2 n3 n4 n5 g0 hal hgl
  generalize w.alloc (.cells #[.int .i64 n.kind, .int .i64 n.num, .string n.text, .slice A3 n.names.length c3, .slice A4 n.kids.length c4, .int .i64 n.at_] 37) = W at *
  obtain ⟨F1, h1, k1, s1⟩ := id HX.out
  have b1 := NB.out.at HS0.out HN0.out k1
  have m0 := b1.m0
  have m1 := b1.m1
  have m2 := b1.m2
  have m3 := b1.m3
  have m4 := b1.m4
  have m5 := b1.m5
  have hc := literal_c h1 b1.l3 b1.f3 b1.l4 b1.f4 hl
  simp only [Option.isSome_none, Option.getD_none] at hc
  unfold ptr at hc
  have HC := hid hc
  have K := hid k1
  have SS := hid s1
  clear hc h1 k1 s1 b1 HX hl
  go_wp2_with fail
  refine HC.out.mono ?_
  rintro e w1 ⟨rfl, hN⟩
  have HX := hid (MN.of K.out SS.out hN)
  clear hN HC K SS m0 m1 m2 m3 m4 m5
  obtain ⟨F2, h2, k2, s2⟩ := id HX.out
  have b2 := NB.out.at HS0.out HN0.out k2
  have hc := stm_c h2 HNN.out IH.out hs
  simp only [Option.isSome_some, Option.getD_some] at hc
  unfold ptr at hc
  have HC := hid hc
  have K := hid k2
  have SS := hid s2
  clear hc h2 k2 s2 b2 HX hs
  go_wp2_with fail
  refine HC.out.mono ?_
  rintro e w2 ⟨rfl, hN⟩
  have HX := hid (MN.of K.out SS.out hN)
  clear hN HC K SS
  go_wp2_with fail
  exact bodyPost_ret (results_none rfl _ _ _) rfl ⟨rfl, MN.pre HB.out HX.out⟩
set_option maxHeartbeats 3200000 in
set_option maxRecDepth 100000 in
theorem node_name (h : MS G w F ids S) (hn : G.l[k]? = some n) (ih : NodeOk G m) (hl : litM n S = some none) (hs : stmM G.l G.spots G.slots G.funs (nodeM G.l G.spots G.slots G.funs m) k n S = some none) (hkd : Box (n.kind = 3)) (hr : nameM G.spots k n S = some S') :
    Calls Try.prog 46 #[ptr G.a, .int .i64 k] w fun e w' => e = .returned (.tuple #[]) ∧ MN G w F ids w' S' := by
  have H1 := hid hr
  clear hr
  obtain ⟨A3, c3, A4, c4, hkl, n0, n1, n2, n3, n4, n5, nb, l3, f3, l4, f4⟩ := h.box hn
  have hkl' : (k : Int) < (G.l.length : Int) := by omega
  have g0 := h.c0
  have hal := h.lt.1
  have hgl := cell_lt n0
  dsimp only at hgl
  have hb := (Below.refl w.heap.size w).alloc (Nat.le_refl _) (.cells #[.int .i64 n.kind, .int .i64 n.num, .string n.text, .slice A3 n.names.length c3, .slice A4 n.kids.length c4, .int .i64 n.at_] 37)
  have NB := hid (show NBx G (w.alloc (.cells #[.int .i64 n.kind, .int .i64 n.num, .string n.text, .slice A3 n.names.length c3, .slice A4 n.kids.length c4, .int .i64 n.at_] 37)) w.heap.size n A3 c3 A4 c4 from nb)
  have HS0 := hid (h.below hb)
  have HN0 := hid h.free
  have HX := hid (h.below hb).same
  have HB := hid hb
  have IH := hid @ih
  have HNN := hid hn
  clear hb nb l3 f3 l4 f4 h ih hn
  have t3 : (n.kind == (3 : Int)) = true := by have := hkd.out; rw [beq_iff_eq]; omega
  unfold ptr
  go_enter Try.func46, Try.ntmps46
  go_upto_region 1 with fail
  clear n0 n1 n2 n3 n4 n5 g0 hal hgl
  generalize w.alloc (.cells #[.int .i64 n.kind, .int .i64 n.num, .string n.text, .slice A3 n.names.length c3, .slice A4 n.kids.length c4, .int .i64 n.at_] 37) = W at *
  obtain ⟨F1, h1, k1, s1⟩ := id HX.out
  have b1 := NB.out.at HS0.out HN0.out k1
  have m0 := b1.m0
  have m1 := b1.m1
  have m2 := b1.m2
  have m3 := b1.m3
  have m4 := b1.m4
  have m5 := b1.m5
  have hc := literal_c h1 b1.l3 b1.f3 b1.l4 b1.f4 hl
  simp only [Option.isSome_none, Option.getD_none] at hc
  unfold ptr at hc
  have HC := hid hc
  have K := hid k1
  have SS := hid s1
  clear hc h1 k1 s1 b1 HX hl
  go_wp2_with fail
  refine HC.out.mono ?_
  rintro e w1 ⟨rfl, hN⟩
  have HX := hid (MN.of K.out SS.out hN)
  clear hN HC K SS m0 m1 m2 m3 m4 m5
  obtain ⟨F2, h2, k2, s2⟩ := id HX.out
  have b2 := NB.out.at HS0.out HN0.out k2
  have hc := stm_c h2 HNN.out IH.out hs
  simp only [Option.isSome_none, Option.getD_none] at hc
  unfold ptr at hc
  have HC := hid hc
  have K := hid k2
  have SS := hid s2
  clear hc h2 k2 s2 b2 HX hs
  go_wp2_with fail
  refine HC.out.mono ?_
  rintro e w2 ⟨rfl, hN⟩
  have HX := hid (MN.of K.out SS.out hN)
  clear hN HC K SS
  obtain ⟨F3, h3, k3, s3⟩ := id HX.out
  have b3 := NB.out.at HS0.out HN0.out k3
  have m0 := b3.m0
  have hc := mname_c h3 HNN.out H1.out
  unfold ptr at hc
  have HC := hid hc
  have K := hid k3
  have SS := hid s3
  clear hc h3 k3 s3 b3 HX
  go_wp2_with fail
  refine HC.out.mono ?_
  rintro e w3 ⟨rfl, hN⟩
  have HX := hid (MN.of K.out SS.out hN)
  clear hN HC K SS
  clear m0
  go_wp2_with fail
  exact bodyPost_end (results_none rfl _ _ _) rfl ⟨rfl, MN.pre HB.out HX.out⟩
set_option maxHeartbeats 3200000 in
set_option maxRecDepth 100000 in
theorem node_obj (h : MS G w F ids S) (hn : G.l[k]? = some n) (ih : NodeOk G m) (hl : litM n S = some none) (hs : stmM G.l G.spots G.slots G.funs (nodeM G.l G.spots G.slots G.funs m) k n S = some none) (hkd : Box (n.kind = 8)) (hr : ((S.put (iN 12 0)).bind (objM (nodeM G.l G.spots G.slots G.funs m) n.names n.kids 0)) = some S') :
    Calls Try.prog 46 #[ptr G.a, .int .i64 k] w fun e w' => e = .returned (.tuple #[]) ∧ MN G w F ids w' S' := by
  obtain ⟨T0, t0, hr⟩ := Option.bind_eq_some_iff.1 hr
  have H0' := hid t0
  have H1 := hid hr
  clear t0 hr
  obtain ⟨A3, c3, A4, c4, hkl, n0, n1, n2, n3, n4, n5, nb, l3, f3, l4, f4⟩ := h.box hn
  have hkl' : (k : Int) < (G.l.length : Int) := by omega
  have g0 := h.c0
  have hal := h.lt.1
  have hgl := cell_lt n0
  dsimp only at hgl
  have hb := (Below.refl w.heap.size w).alloc (Nat.le_refl _) (.cells #[.int .i64 n.kind, .int .i64 n.num, .string n.text, .slice A3 n.names.length c3, .slice A4 n.kids.length c4, .int .i64 n.at_] 37)
  have NB := hid (show NBx G (w.alloc (.cells #[.int .i64 n.kind, .int .i64 n.num, .string n.text, .slice A3 n.names.length c3, .slice A4 n.kids.length c4, .int .i64 n.at_] 37)) w.heap.size n A3 c3 A4 c4 from nb)
  have HS0 := hid (h.below hb)
  have HN0 := hid h.free
  have HX := hid (h.below hb).same
  have HB := hid hb
  have IH := hid @ih
  have HNN := hid hn
  clear hb nb l3 f3 l4 f4 h ih hn
  have t3 : (n.kind == (3 : Int)) = false := by have := hkd.out; rw [beq_eq_false_iff_ne]; omega
  have t8 : (n.kind == (8 : Int)) = true := by have := hkd.out; rw [beq_iff_eq]; omega
  unfold ptr
  go_enter Try.func46, Try.ntmps46
  go_upto_region 1 with fail
  clear n0 n1 n2 n3 n4 n5 g0 hal hgl
  generalize w.alloc (.cells #[.int .i64 n.kind, .int .i64 n.num, .string n.text, .slice A3 n.names.length c3, .slice A4 n.kids.length c4, .int .i64 n.at_] 37) = W at *
  obtain ⟨F1, h1, k1, s1⟩ := id HX.out
  have b1 := NB.out.at HS0.out HN0.out k1
  have m0 := b1.m0
  have m1 := b1.m1
  have m2 := b1.m2
  have m3 := b1.m3
  have m4 := b1.m4
  have m5 := b1.m5
  have hc := literal_c h1 b1.l3 b1.f3 b1.l4 b1.f4 hl
  simp only [Option.isSome_none, Option.getD_none] at hc
  unfold ptr at hc
  have HC := hid hc
  have K := hid k1
  have SS := hid s1
  clear hc h1 k1 s1 b1 HX hl
  go_wp2_with fail
  refine HC.out.mono ?_
  rintro e w1 ⟨rfl, hN⟩
  have HX := hid (MN.of K.out SS.out hN)
  clear hN HC K SS m0 m1 m2 m3 m4 m5
  obtain ⟨F2, h2, k2, s2⟩ := id HX.out
  have b2 := NB.out.at HS0.out HN0.out k2
  have hc := stm_c h2 HNN.out IH.out hs
  simp only [Option.isSome_none, Option.getD_none] at hc
  unfold ptr at hc
  have HC := hid hc
  have K := hid k2
  have SS := hid s2
  clear hc h2 k2 s2 b2 HX hs
  go_wp2_with fail
  refine HC.out.mono ?_
  rintro e w2 ⟨rfl, hN⟩
  have HX := hid (MN.of K.out SS.out hN)
  clear hN HC K SS
  obtain ⟨F3, h3, k3, s3⟩ := id HX.out
  have b3 := NB.out.at HS0.out HN0.out k3
  have m0 := b3.m0
  have hc := mput_c h3 H0'.out
  unfold ptr at hc
  have HC := hid hc
  have K := hid k3
  have SS := hid s3
  clear hc h3 k3 s3 b3 HX
  go_wp2_with fail
  refine HC.out.mono ?_
  rintro e w3 ⟨rfl, hN⟩
  have HX := hid (MN.of K.out SS.out hN)
  clear hN HC K SS
  clear m0
  obtain ⟨F4, h4, k4, s4⟩ := id HX.out
  have b4 := NB.out.at HS0.out HN0.out k4
  have m4 := b4.m4
  have hmax : n.kids.length ≤ 9223372036854775807 := Kd.F_max b4.f4
  clear h4 k4 s4 b4
  go_wp2_with fail
  clear m4
  go_loopw [38] (fun x wx => ∃ (j : Nat) (T : Mk), j ≤ n.kids.length ∧ x = .int .i64 j ∧ Box (MN G W F ids wx T) ∧ Box (objM (nodeM G.l G.spots G.slots G.funs m) n.names (n.kids.drop j) j T = some S')) (fun x _ => n.kids.length - (RowKit.intOf x).toNat)
  case atStart => exact ⟨0, T0, Nat.zero_le _, rfl, HX, H1⟩
  case round =>
    clear HX H1
    obtain ⟨j, T, hj, rfl, HX, HR⟩ := hrel
    rcases Nat.lt_or_ge j n.kids.length with hlt | hge
    · have hlt' : (j : Int) < (n.kids.length : Int) := by omega
      have hr := HR.out
      rw [List.drop_eq_getElem_cons hlt] at hr
      unfold objM at hr
      obtain ⟨T1, t1, hr⟩ := Option.bind_eq_some_iff.1 hr
      obtain ⟨nm, hnm, hr⟩ := Option.bind_eq_some_iff.1 hr
      obtain ⟨T2, t2, hr⟩ := Option.bind_eq_some_iff.1 hr
      obtain ⟨F5, h5, k5, s5⟩ := id HX.out
      have b5 := NB.out.at HS0.out HN0.out k5
      obtain ⟨ad, had⟩ := b5.some (by omega)
      rw [had] at b5
      have hc := b5.kid (i := j) (List.getElem?_eq_getElem hlt)
      generalize n.kids[j] = kd at hc t1
      have H1 := hid t1
      have H2 := hid t2
      have H3 := hid hr
      have HNM := hid hnm
      have hnl := (List.getElem?_eq_some_iff.1 hnm).1
      have hnl' : (j : Int) < (n.names.length : Int) := by omega
      have HAD := hid had
      clear t1 t2 hr HR had hnm
      have A4e := HAD.out
      subst A4e
      have hcc := IH.out H1.out h5
      unfold ptr at hcc
      have HC := hid hcc
      have K := hid k5
      have SS := hid s5
      clear hcc h5 k5 s5 b5 HX
      go_wp2_with fail
      refine HC.out.mono ?_
      rintro e w5 ⟨rfl, hN⟩
      have HX := hid (MN.of K.out SS.out hN)
      clear hN HC K SS hc
      obtain ⟨F6, h6, k6, s6⟩ := id HX.out
      have b6 := NB.out.at HS0.out HN0.out k6
      have m3 := b6.m3
      obtain ⟨a3, ha3, hnc⟩ := Kd.at_string (Kd.F_now b6.f3) (j : Int) (by omega) (by omega)
      have hnx : rdOf ByteArray.empty n.names (j : Int) = nm := by unfold rdOf; simp [HNM.out]
      rw [hnx, Int.toNat_natCast] at hnc
      subst ha3
      have hc := mtext_c h6 H2.out
      unfold ptr at hc
      have HC := hid hc
      have K := hid k6
      have SS := hid s6
      clear hc h6 k6 s6 b6 HX
      go_wp2_with fail
      refine HC.out.mono ?_
      rintro e w6 ⟨rfl, hN⟩
      have HX := hid (MN.of K.out SS.out hN)
      clear hN HC K SS
      clear m3 hnc
      go_wp2_with fail
      go_roundw
      case rel => exact ⟨j + 1, T2, by omega, by go_num, HX, H3⟩
      case measure => simp [RowKit.intOf]; omega
    · obtain rfl : j = n.kids.length := by omega
      have hr := HR.out
      rw [List.drop_length] at hr
      obtain rfl : T = S' := Option.some.inj hr
      clear hr
      go_wp2_with fail
      exact bodyPost_end (results_none rfl _ _ _) rfl ⟨rfl, MN.pre HB.out HX.out⟩
set_option maxHeartbeats 3200000 in
set_option maxRecDepth 100000 in
theorem node_arr (h : MS G w F ids S) (hn : G.l[k]? = some n) (ih : NodeOk G m) (hl : litM n S = some none) (hs : stmM G.l G.spots G.slots G.funs (nodeM G.l G.spots G.slots G.funs m) k n S = some none) (hkd : Box (n.kind = 9)) (hr : ((S.put (iN 14 0)).bind (arrM (nodeM G.l G.spots G.slots G.funs m) n.kids)) = some S') :
    Calls Try.prog 46 #[ptr G.a, .int .i64 k] w fun e w' => e = .returned (.tuple #[]) ∧ MN G w F ids w' S' := by
  obtain ⟨T0, t0, hr⟩ := Option.bind_eq_some_iff.1 hr
  have H0' := hid t0
  have H1 := hid hr
  clear t0 hr
  obtain ⟨A3, c3, A4, c4, hkl, n0, n1, n2, n3, n4, n5, nb, l3, f3, l4, f4⟩ := h.box hn
  have hkl' : (k : Int) < (G.l.length : Int) := by omega
  have g0 := h.c0
  have hal := h.lt.1
  have hgl := cell_lt n0
  dsimp only at hgl
  have hb := (Below.refl w.heap.size w).alloc (Nat.le_refl _) (.cells #[.int .i64 n.kind, .int .i64 n.num, .string n.text, .slice A3 n.names.length c3, .slice A4 n.kids.length c4, .int .i64 n.at_] 37)
  have NB := hid (show NBx G (w.alloc (.cells #[.int .i64 n.kind, .int .i64 n.num, .string n.text, .slice A3 n.names.length c3, .slice A4 n.kids.length c4, .int .i64 n.at_] 37)) w.heap.size n A3 c3 A4 c4 from nb)
  have HS0 := hid (h.below hb)
  have HN0 := hid h.free
  have HX := hid (h.below hb).same
  have HB := hid hb
  have IH := hid @ih
  have HNN := hid hn
  clear hb nb l3 f3 l4 f4 h ih hn
  have t3 : (n.kind == (3 : Int)) = false := by have := hkd.out; rw [beq_eq_false_iff_ne]; omega
  have t8 : (n.kind == (8 : Int)) = false := by have := hkd.out; rw [beq_eq_false_iff_ne]; omega
  have t9 : (n.kind == (9 : Int)) = true := by have := hkd.out; rw [beq_iff_eq]; omega
  unfold ptr
  go_enter Try.func46, Try.ntmps46
  go_upto_region 1 with fail
  clear n0 n1 n2 n3 n4 n5 g0 hal hgl
  generalize w.alloc (.cells #[.int .i64 n.kind, .int .i64 n.num, .string n.text, .slice A3 n.names.length c3, .slice A4 n.kids.length c4, .int .i64 n.at_] 37) = W at *
  obtain ⟨F1, h1, k1, s1⟩ := id HX.out
  have b1 := NB.out.at HS0.out HN0.out k1
  have m0 := b1.m0
  have m1 := b1.m1
  have m2 := b1.m2
  have m3 := b1.m3
  have m4 := b1.m4
  have m5 := b1.m5
  have hc := literal_c h1 b1.l3 b1.f3 b1.l4 b1.f4 hl
  simp only [Option.isSome_none, Option.getD_none] at hc
  unfold ptr at hc
  have HC := hid hc
  have K := hid k1
  have SS := hid s1
  clear hc h1 k1 s1 b1 HX hl
  go_wp2_with fail
  refine HC.out.mono ?_
  rintro e w1 ⟨rfl, hN⟩
  have HX := hid (MN.of K.out SS.out hN)
  clear hN HC K SS m0 m1 m2 m3 m4 m5
  obtain ⟨F2, h2, k2, s2⟩ := id HX.out
  have b2 := NB.out.at HS0.out HN0.out k2
  have hc := stm_c h2 HNN.out IH.out hs
  simp only [Option.isSome_none, Option.getD_none] at hc
  unfold ptr at hc
  have HC := hid hc
  have K := hid k2
  have SS := hid s2
  clear hc h2 k2 s2 b2 HX hs
  go_wp2_with fail
  refine HC.out.mono ?_
  rintro e w2 ⟨rfl, hN⟩
  have HX := hid (MN.of K.out SS.out hN)
  clear hN HC K SS
  obtain ⟨F3, h3, k3, s3⟩ := id HX.out
  have b3 := NB.out.at HS0.out HN0.out k3
  have m0 := b3.m0
  have hc := mput_c h3 H0'.out
  unfold ptr at hc
  have HC := hid hc
  have K := hid k3
  have SS := hid s3
  clear hc h3 k3 s3 b3 HX
  go_wp2_with fail
  refine HC.out.mono ?_
  rintro e w3 ⟨rfl, hN⟩
  have HX := hid (MN.of K.out SS.out hN)
  clear hN HC K SS
  clear m0
  obtain ⟨F4, h4, k4, s4⟩ := id HX.out
  have b4 := NB.out.at HS0.out HN0.out k4
  have m4 := b4.m4
  have hmax : n.kids.length ≤ 9223372036854775807 := Kd.F_max b4.f4
  clear h4 k4 s4 b4
  go_wp2_with fail
  clear m4
  go_loopw [61] (fun x wx => ∃ (j : Nat) (T : Mk), j ≤ n.kids.length ∧ x = .int .i64 j ∧ Box (MN G W F ids wx T) ∧ Box (arrM (nodeM G.l G.spots G.slots G.funs m) (n.kids.drop j) T = some S')) (fun x _ => n.kids.length - (RowKit.intOf x).toNat)
  case atStart => exact ⟨0, T0, Nat.zero_le _, rfl, HX, H1⟩
  case round =>
    clear HX H1
    obtain ⟨j, T, hj, rfl, HX, HR⟩ := hrel
    rcases Nat.lt_or_ge j n.kids.length with hlt | hge
    · have hlt' : (j : Int) < (n.kids.length : Int) := by omega
      have hr := HR.out
      rw [List.drop_eq_getElem_cons hlt] at hr
      unfold arrM at hr
      obtain ⟨T1, t1, hr⟩ := Option.bind_eq_some_iff.1 hr
      obtain ⟨T2, t2, hr⟩ := Option.bind_eq_some_iff.1 hr
      obtain ⟨F5, h5, k5, s5⟩ := id HX.out
      have b5 := NB.out.at HS0.out HN0.out k5
      obtain ⟨ad, had⟩ := b5.some (by omega)
      rw [had] at b5
      have hc := b5.kid (i := j) (List.getElem?_eq_getElem hlt)
      generalize n.kids[j] = kd at hc t1
      have H1 := hid t1
      have H2 := hid t2
      have H3 := hid hr
      have HAD := hid had
      clear t1 t2 hr HR had
      have A4e := HAD.out
      subst A4e
      have hcc := IH.out H1.out h5
      unfold ptr at hcc
      have HC := hid hcc
      have K := hid k5
      have SS := hid s5
      clear hcc h5 k5 s5 b5 HX
      go_wp2_with fail
      refine HC.out.mono ?_
      rintro e w5 ⟨rfl, hN⟩
      have HX := hid (MN.of K.out SS.out hN)
      clear hN HC K SS hc
      obtain ⟨F6, h6, k6, s6⟩ := id HX.out
      have b6 := NB.out.at HS0.out HN0.out k6
      have hc := mput_c h6 H2.out
      unfold ptr at hc
      have HC := hid hc
      have K := hid k6
      have SS := hid s6
      clear hc h6 k6 s6 b6 HX
      go_wp2_with fail
      refine HC.out.mono ?_
      rintro e w6 ⟨rfl, hN⟩
      have HX := hid (MN.of K.out SS.out hN)
      clear hN HC K SS
      go_wp2_with fail
      go_roundw
      case rel => exact ⟨j + 1, T2, by omega, by go_num, HX, H3⟩
      case measure => simp [RowKit.intOf]; omega
    · obtain rfl : j = n.kids.length := by omega
      have hr := HR.out
      rw [List.drop_length] at hr
      obtain rfl : T = S' := Option.some.inj hr
      clear hr
      go_wp2_with fail
      exact bodyPost_end (results_none rfl _ _ _) rfl ⟨rfl, MN.pre HB.out HX.out⟩
set_option maxHeartbeats 3200000 in
set_option maxRecDepth 100000 in
theorem node_fun (h : MS G w F ids S) (hn : G.l[k]? = some n) (ih : NodeOk G m) (hl : litM n S = some none) (hs : stmM G.l G.spots G.slots G.funs (nodeM G.l G.spots G.slots G.funs m) k n S = some none) (hkd : Box (n.kind = 10)) (hr : S.put (iN 16 (G.funs k)) = some S') :
    Calls Try.prog 46 #[ptr G.a, .int .i64 k] w fun e w' => e = .returned (.tuple #[]) ∧ MN G w F ids w' S' := by
  have H1 := hid hr
  clear hr
  obtain ⟨A3, c3, A4, c4, hkl, n0, n1, n2, n3, n4, n5, nb, l3, f3, l4, f4⟩ := h.box hn
  have hkl' : (k : Int) < (G.l.length : Int) := by omega
  have g0 := h.c0
  have hal := h.lt.1
  have hgl := cell_lt n0
  dsimp only at hgl
  have hb := (Below.refl w.heap.size w).alloc (Nat.le_refl _) (.cells #[.int .i64 n.kind, .int .i64 n.num, .string n.text, .slice A3 n.names.length c3, .slice A4 n.kids.length c4, .int .i64 n.at_] 37)
  have NB := hid (show NBx G (w.alloc (.cells #[.int .i64 n.kind, .int .i64 n.num, .string n.text, .slice A3 n.names.length c3, .slice A4 n.kids.length c4, .int .i64 n.at_] 37)) w.heap.size n A3 c3 A4 c4 from nb)
  have HS0 := hid (h.below hb)
  have HN0 := hid h.free
  have HX := hid (h.below hb).same
  have HB := hid hb
  have IH := hid @ih
  have HNN := hid hn
  clear hb nb l3 f3 l4 f4 h ih hn
  have t3 : (n.kind == (3 : Int)) = false := by have := hkd.out; rw [beq_eq_false_iff_ne]; omega
  have t8 : (n.kind == (8 : Int)) = false := by have := hkd.out; rw [beq_eq_false_iff_ne]; omega
  have t9 : (n.kind == (9 : Int)) = false := by have := hkd.out; rw [beq_eq_false_iff_ne]; omega
  have t10 : (n.kind == (10 : Int)) = true := by have := hkd.out; rw [beq_iff_eq]; omega
  unfold ptr
  go_enter Try.func46, Try.ntmps46
  go_upto_region 1 with fail
  clear n0 n1 n2 n3 n4 n5 g0 hal hgl
  generalize w.alloc (.cells #[.int .i64 n.kind, .int .i64 n.num, .string n.text, .slice A3 n.names.length c3, .slice A4 n.kids.length c4, .int .i64 n.at_] 37) = W at *
  obtain ⟨F1, h1, k1, s1⟩ := id HX.out
  have b1 := NB.out.at HS0.out HN0.out k1
  have m0 := b1.m0
  have m1 := b1.m1
  have m2 := b1.m2
  have m3 := b1.m3
  have m4 := b1.m4
  have m5 := b1.m5
  have hc := literal_c h1 b1.l3 b1.f3 b1.l4 b1.f4 hl
  simp only [Option.isSome_none, Option.getD_none] at hc
  unfold ptr at hc
  have HC := hid hc
  have K := hid k1
  have SS := hid s1
  clear hc h1 k1 s1 b1 HX hl
  go_wp2_with fail
  refine HC.out.mono ?_
  rintro e w1 ⟨rfl, hN⟩
  have HX := hid (MN.of K.out SS.out hN)
  clear hN HC K SS m0 m1 m2 m3 m4 m5
  obtain ⟨F2, h2, k2, s2⟩ := id HX.out
  have b2 := NB.out.at HS0.out HN0.out k2
  have hc := stm_c h2 HNN.out IH.out hs
  simp only [Option.isSome_none, Option.getD_none] at hc
  unfold ptr at hc
  have HC := hid hc
  have K := hid k2
  have SS := hid s2
  clear hc h2 k2 s2 b2 HX hs
  go_wp2_with fail
  refine HC.out.mono ?_
  rintro e w2 ⟨rfl, hN⟩
  have HX := hid (MN.of K.out SS.out hN)
  clear hN HC K SS
  obtain ⟨F3, h3, k3, s3⟩ := id HX.out
  have b3 := NB.out.at HS0.out HN0.out k3
  have m0 := b3.m0
  have c3' := h3.c3
  have hrun := h3.mp.run (k := k) (by have := h3.lens; omega)
  have hc := mnum_c h3 H1.out
  unfold ptr at hc
  have HC := hid hc
  have K := hid k3
  have SS := hid s3
  clear hc h3 k3 s3 b3 HX
  go_wp2_with fail
  refine HC.out.mono ?_
  rintro e w3 ⟨rfl, hN⟩
  have HX := hid (MN.of K.out SS.out hN)
  clear hN HC K SS
  clear m0 c3' hrun
  go_wp2_with fail
  exact bodyPost_end (results_none rfl _ _ _) rfl ⟨rfl, MN.pre HB.out HX.out⟩
set_option maxHeartbeats 3200000 in
set_option maxRecDepth 100000 in
theorem node_get (h : MS G w F ids S) (hn : G.l[k]? = some n) (ih : NodeOk G m) (hl : litM n S = some none) (hs : stmM G.l G.spots G.slots G.funs (nodeM G.l G.spots G.slots G.funs m) k n S = some none) (hkd : Box (n.kind = 11)) (hr : ((allM (nodeM G.l G.spots G.slots G.funs m) n.kids S).bind fun S1 => S1.put (iS 17 n.text)) = some S') :
    Calls Try.prog 46 #[ptr G.a, .int .i64 k] w fun e w' => e = .returned (.tuple #[]) ∧ MN G w F ids w' S' := by
  obtain ⟨T1, t1, hr⟩ := Option.bind_eq_some_iff.1 hr
  have H1 := hid t1
  have H2 := hid hr
  clear t1 hr
  obtain ⟨A3, c3, A4, c4, hkl, n0, n1, n2, n3, n4, n5, nb, l3, f3, l4, f4⟩ := h.box hn
  have hkl' : (k : Int) < (G.l.length : Int) := by omega
  have g0 := h.c0
  have hal := h.lt.1
  have hgl := cell_lt n0
  dsimp only at hgl
  have hb := (Below.refl w.heap.size w).alloc (Nat.le_refl _) (.cells #[.int .i64 n.kind, .int .i64 n.num, .string n.text, .slice A3 n.names.length c3, .slice A4 n.kids.length c4, .int .i64 n.at_] 37)
  have NB := hid (show NBx G (w.alloc (.cells #[.int .i64 n.kind, .int .i64 n.num, .string n.text, .slice A3 n.names.length c3, .slice A4 n.kids.length c4, .int .i64 n.at_] 37)) w.heap.size n A3 c3 A4 c4 from nb)
  have HS0 := hid (h.below hb)
  have HN0 := hid h.free
  have HX := hid (h.below hb).same
  have HB := hid hb
  have IH := hid @ih
  have HNN := hid hn
  clear hb nb l3 f3 l4 f4 h ih hn
  have t3 : (n.kind == (3 : Int)) = false := by have := hkd.out; rw [beq_eq_false_iff_ne]; omega
  have t8 : (n.kind == (8 : Int)) = false := by have := hkd.out; rw [beq_eq_false_iff_ne]; omega
  have t9 : (n.kind == (9 : Int)) = false := by have := hkd.out; rw [beq_eq_false_iff_ne]; omega
  have t10 : (n.kind == (10 : Int)) = false := by have := hkd.out; rw [beq_eq_false_iff_ne]; omega
  have t11 : (n.kind == (11 : Int)) = true := by have := hkd.out; rw [beq_iff_eq]; omega
  unfold ptr
  go_enter Try.func46, Try.ntmps46
  go_upto_region 1 with fail
  clear n0 n1 n2 n3 n4 n5 g0 hal hgl
  generalize w.alloc (.cells #[.int .i64 n.kind, .int .i64 n.num, .string n.text, .slice A3 n.names.length c3, .slice A4 n.kids.length c4, .int .i64 n.at_] 37) = W at *
  obtain ⟨F1, h1, k1, s1⟩ := id HX.out
  have b1 := NB.out.at HS0.out HN0.out k1
  have m0 := b1.m0
  have m1 := b1.m1
  have m2 := b1.m2
  have m3 := b1.m3
  have m4 := b1.m4
  have m5 := b1.m5
  have hc := literal_c h1 b1.l3 b1.f3 b1.l4 b1.f4 hl
  simp only [Option.isSome_none, Option.getD_none] at hc
  unfold ptr at hc
  have HC := hid hc
  have K := hid k1
  have SS := hid s1
  clear hc h1 k1 s1 b1 HX hl
  go_wp2_with fail
  refine HC.out.mono ?_
  rintro e w1 ⟨rfl, hN⟩
  have HX := hid (MN.of K.out SS.out hN)
  clear hN HC K SS m0 m1 m2 m3 m4 m5
  obtain ⟨F2, h2, k2, s2⟩ := id HX.out
  have b2 := NB.out.at HS0.out HN0.out k2
  have hc := stm_c h2 HNN.out IH.out hs
  simp only [Option.isSome_none, Option.getD_none] at hc
  unfold ptr at hc
  have HC := hid hc
  have K := hid k2
  have SS := hid s2
  clear hc h2 k2 s2 b2 HX hs
  go_wp2_with fail
  refine HC.out.mono ?_
  rintro e w2 ⟨rfl, hN⟩
  have HX := hid (MN.of K.out SS.out hN)
  clear hN HC K SS
  obtain ⟨F3, h3, k3, s3⟩ := id HX.out
  have b3 := NB.out.at HS0.out HN0.out k3
  have m0 := b3.m0
  have m4 := b3.m4
  have hc := mall_c (c := c4) IH.out h3 H1.out b3.f4
  unfold ptr at hc
  have HC := hid hc
  have K := hid k3
  have SS := hid s3
  clear hc h3 k3 s3 b3 HX
  go_wp2_with fail
  refine HC.out.mono ?_
  rintro e w3 ⟨rfl, hN⟩
  have HX := hid (MN.of K.out SS.out hN)
  clear hN HC K SS
  clear m0 m4
  obtain ⟨F4, h4, k4, s4⟩ := id HX.out
  have b4 := NB.out.at HS0.out HN0.out k4
  have m2 := b4.m2
  have hc := mtext_c h4 H2.out
  unfold ptr at hc
  have HC := hid hc
  have K := hid k4
  have SS := hid s4
  clear hc h4 k4 s4 b4 HX
  go_wp2_with fail
  refine HC.out.mono ?_
  rintro e w4 ⟨rfl, hN⟩
  have HX := hid (MN.of K.out SS.out hN)
  clear hN HC K SS
  clear m2
  go_wp2_with fail
  exact bodyPost_end (results_none rfl _ _ _) rfl ⟨rfl, MN.pre HB.out HX.out⟩
set_option maxHeartbeats 3200000 in
set_option maxRecDepth 100000 in
theorem node_at (h : MS G w F ids S) (hn : G.l[k]? = some n) (ih : NodeOk G m) (hl : litM n S = some none) (hs : stmM G.l G.spots G.slots G.funs (nodeM G.l G.spots G.slots G.funs m) k n S = some none) (hkd : Box (n.kind = 12)) (hr : ((allM (nodeM G.l G.spots G.slots G.funs m) n.kids S).bind fun S1 => S1.put (iN 18 0)) = some S') :
    Calls Try.prog 46 #[ptr G.a, .int .i64 k] w fun e w' => e = .returned (.tuple #[]) ∧ MN G w F ids w' S' := by
  obtain ⟨T1, t1, hr⟩ := Option.bind_eq_some_iff.1 hr
  have H1 := hid t1
  have H2 := hid hr
  clear t1 hr
  obtain ⟨A3, c3, A4, c4, hkl, n0, n1, n2, n3, n4, n5, nb, l3, f3, l4, f4⟩ := h.box hn
  have hkl' : (k : Int) < (G.l.length : Int) := by omega
  have g0 := h.c0
  have hal := h.lt.1
  have hgl := cell_lt n0
  dsimp only at hgl
  have hb := (Below.refl w.heap.size w).alloc (Nat.le_refl _) (.cells #[.int .i64 n.kind, .int .i64 n.num, .string n.text, .slice A3 n.names.length c3, .slice A4 n.kids.length c4, .int .i64 n.at_] 37)
  have NB := hid (show NBx G (w.alloc (.cells #[.int .i64 n.kind, .int .i64 n.num, .string n.text, .slice A3 n.names.length c3, .slice A4 n.kids.length c4, .int .i64 n.at_] 37)) w.heap.size n A3 c3 A4 c4 from nb)
  have HS0 := hid (h.below hb)
  have HN0 := hid h.free
  have HX := hid (h.below hb).same
  have HB := hid hb
  have IH := hid @ih
  have HNN := hid hn
  clear hb nb l3 f3 l4 f4 h ih hn
  have t3 : (n.kind == (3 : Int)) = false := by have := hkd.out; rw [beq_eq_false_iff_ne]; omega
  have t8 : (n.kind == (8 : Int)) = false := by have := hkd.out; rw [beq_eq_false_iff_ne]; omega
  have t9 : (n.kind == (9 : Int)) = false := by have := hkd.out; rw [beq_eq_false_iff_ne]; omega
  have t10 : (n.kind == (10 : Int)) = false := by have := hkd.out; rw [beq_eq_false_iff_ne]; omega
  have t11 : (n.kind == (11 : Int)) = false := by have := hkd.out; rw [beq_eq_false_iff_ne]; omega
  have t12 : (n.kind == (12 : Int)) = true := by have := hkd.out; rw [beq_iff_eq]; omega
  unfold ptr
  go_enter Try.func46, Try.ntmps46
  go_upto_region 1 with fail
  clear n0 n1 n2 n3 n4 n5 g0 hal hgl
  generalize w.alloc (.cells #[.int .i64 n.kind, .int .i64 n.num, .string n.text, .slice A3 n.names.length c3, .slice A4 n.kids.length c4, .int .i64 n.at_] 37) = W at *
  obtain ⟨F1, h1, k1, s1⟩ := id HX.out
  have b1 := NB.out.at HS0.out HN0.out k1
  have m0 := b1.m0
  have m1 := b1.m1
  have m2 := b1.m2
  have m3 := b1.m3
  have m4 := b1.m4
  have m5 := b1.m5
  have hc := literal_c h1 b1.l3 b1.f3 b1.l4 b1.f4 hl
  simp only [Option.isSome_none, Option.getD_none] at hc
  unfold ptr at hc
  have HC := hid hc
  have K := hid k1
  have SS := hid s1
  clear hc h1 k1 s1 b1 HX hl
  go_wp2_with fail
  refine HC.out.mono ?_
  rintro e w1 ⟨rfl, hN⟩
  have HX := hid (MN.of K.out SS.out hN)
  clear hN HC K SS m0 m1 m2 m3 m4 m5
  obtain ⟨F2, h2, k2, s2⟩ := id HX.out
  have b2 := NB.out.at HS0.out HN0.out k2
  have hc := stm_c h2 HNN.out IH.out hs
  simp only [Option.isSome_none, Option.getD_none] at hc
  unfold ptr at hc
  have HC := hid hc
  have K := hid k2
  have SS := hid s2
  clear hc h2 k2 s2 b2 HX hs
  go_wp2_with fail
  refine HC.out.mono ?_
  rintro e w2 ⟨rfl, hN⟩
  have HX := hid (MN.of K.out SS.out hN)
  clear hN HC K SS
  obtain ⟨F3, h3, k3, s3⟩ := id HX.out
  have b3 := NB.out.at HS0.out HN0.out k3
  have m0 := b3.m0
  have m4 := b3.m4
  have hc := mall_c (c := c4) IH.out h3 H1.out b3.f4
  unfold ptr at hc
  have HC := hid hc
  have K := hid k3
  have SS := hid s3
  clear hc h3 k3 s3 b3 HX
  go_wp2_with fail
  refine HC.out.mono ?_
  rintro e w3 ⟨rfl, hN⟩
  have HX := hid (MN.of K.out SS.out hN)
  clear hN HC K SS
  clear m0 m4
  obtain ⟨F4, h4, k4, s4⟩ := id HX.out
  have b4 := NB.out.at HS0.out HN0.out k4
  have hc := mput_c h4 H2.out
  unfold ptr at hc
  have HC := hid hc
  have K := hid k4
  have SS := hid s4
  clear hc h4 k4 s4 b4 HX
  go_wp2_with fail
  refine HC.out.mono ?_
  rintro e w4 ⟨rfl, hN⟩
  have HX := hid (MN.of K.out SS.out hN)
  clear hN HC K SS
  go_wp2_with fail
  exact bodyPost_end (results_none rfl _ _ _) rfl ⟨rfl, MN.pre HB.out HX.out⟩
set_option maxHeartbeats 3200000 in
set_option maxRecDepth 100000 in
theorem node_call (h : MS G w F ids S) (hn : G.l[k]? = some n) (ih : NodeOk G m) (hl : litM n S = some none) (hs : stmM G.l G.spots G.slots G.funs (nodeM G.l G.spots G.slots G.funs m) k n S = some none) (hkd : Box (n.kind = 13)) (hr : callM G.l (nodeM G.l G.spots G.slots G.funs m) n S = some S') :
    Calls Try.prog 46 #[ptr G.a, .int .i64 k] w fun e w' => e = .returned (.tuple #[]) ∧ MN G w F ids w' S' := by
  have H1 := hid hr
  clear hr
  obtain ⟨A3, c3, A4, c4, hkl, n0, n1, n2, n3, n4, n5, nb, l3, f3, l4, f4⟩ := h.box hn
  have hkl' : (k : Int) < (G.l.length : Int) := by omega
  have g0 := h.c0
  have hal := h.lt.1
  have hgl := cell_lt n0
  dsimp only at hgl
  have hb := (Below.refl w.heap.size w).alloc (Nat.le_refl _) (.cells #[.int .i64 n.kind, .int .i64 n.num, .string n.text, .slice A3 n.names.length c3, .slice A4 n.kids.length c4, .int .i64 n.at_] 37)
  have NB := hid (show NBx G (w.alloc (.cells #[.int .i64 n.kind, .int .i64 n.num, .string n.text, .slice A3 n.names.length c3, .slice A4 n.kids.length c4, .int .i64 n.at_] 37)) w.heap.size n A3 c3 A4 c4 from nb)
  have HS0 := hid (h.below hb)
  have HN0 := hid h.free
  have HX := hid (h.below hb).same
  have HB := hid hb
  have IH := hid @ih
  have HNN := hid hn
  clear hb nb l3 f3 l4 f4 h ih hn
  have t3 : (n.kind == (3 : Int)) = false := by have := hkd.out; rw [beq_eq_false_iff_ne]; omega
  have t8 : (n.kind == (8 : Int)) = false := by have := hkd.out; rw [beq_eq_false_iff_ne]; omega
  have t9 : (n.kind == (9 : Int)) = false := by have := hkd.out; rw [beq_eq_false_iff_ne]; omega
  have t10 : (n.kind == (10 : Int)) = false := by have := hkd.out; rw [beq_eq_false_iff_ne]; omega
  have t11 : (n.kind == (11 : Int)) = false := by have := hkd.out; rw [beq_eq_false_iff_ne]; omega
  have t12 : (n.kind == (12 : Int)) = false := by have := hkd.out; rw [beq_eq_false_iff_ne]; omega
  have t13 : (n.kind == (13 : Int)) = true := by have := hkd.out; rw [beq_iff_eq]; omega
  unfold ptr
  go_enter Try.func46, Try.ntmps46
  go_upto_region 1 with fail
  clear n0 n1 n2 n3 n4 n5 g0 hal hgl
  generalize w.alloc (.cells #[.int .i64 n.kind, .int .i64 n.num, .string n.text, .slice A3 n.names.length c3, .slice A4 n.kids.length c4, .int .i64 n.at_] 37) = W at *
  obtain ⟨F1, h1, k1, s1⟩ := id HX.out
  have b1 := NB.out.at HS0.out HN0.out k1
  have m0 := b1.m0
  have m1 := b1.m1
  have m2 := b1.m2
  have m3 := b1.m3
  have m4 := b1.m4
  have m5 := b1.m5
  have hc := literal_c h1 b1.l3 b1.f3 b1.l4 b1.f4 hl
  simp only [Option.isSome_none, Option.getD_none] at hc
  unfold ptr at hc
  have HC := hid hc
  have K := hid k1
  have SS := hid s1
  clear hc h1 k1 s1 b1 HX hl
  go_wp2_with fail
  refine HC.out.mono ?_
  rintro e w1 ⟨rfl, hN⟩
  have HX := hid (MN.of K.out SS.out hN)
  clear hN HC K SS m0 m1 m2 m3 m4 m5
  obtain ⟨F2, h2, k2, s2⟩ := id HX.out
  have b2 := NB.out.at HS0.out HN0.out k2
  have hc := stm_c h2 HNN.out IH.out hs
  simp only [Option.isSome_none, Option.getD_none] at hc
  unfold ptr at hc
  have HC := hid hc
  have K := hid k2
  have SS := hid s2
  clear hc h2 k2 s2 b2 HX hs
  go_wp2_with fail
  refine HC.out.mono ?_
  rintro e w2 ⟨rfl, hN⟩
  have HX := hid (MN.of K.out SS.out hN)
  clear hN HC K SS
  obtain ⟨F3, h3, k3, s3⟩ := id HX.out
  have b3 := NB.out.at HS0.out HN0.out k3
  have m0 := b3.m0
  have m1 := b3.m1
  have m2 := b3.m2
  have m3 := b3.m3
  have m4 := b3.m4
  have m5 := b3.m5
  have hc := mcall_c h3 b3.l3 b3.f3 b3.l4 b3.f4 @IH.out H1.out
  unfold ptr at hc
  have HC := hid hc
  have K := hid k3
  have SS := hid s3
  clear hc h3 k3 s3 b3 HX
  go_wp2_with fail
  refine HC.out.mono ?_
  rintro e w3 ⟨rfl, hN⟩
  have HX := hid (MN.of K.out SS.out hN)
  clear hN HC K SS
  clear m0 m1 m2 m3 m4 m5
  go_wp2_with fail
  exact bodyPost_end (results_none rfl _ _ _) rfl ⟨rfl, MN.pre HB.out HX.out⟩
set_option maxHeartbeats 3200000 in
set_option maxRecDepth 100000 in
theorem node_unary (h : MS G w F ids S) (hn : G.l[k]? = some n) (ih : NodeOk G m) (hl : litM n S = some none) (hs : stmM G.l G.spots G.slots G.funs (nodeM G.l G.spots G.slots G.funs m) k n S = some none) (hkd : Box (n.kind = 14)) (hr : ((allM (nodeM G.l G.spots G.slots G.funs m) n.kids S).bind fun S1 => S1.put (iS 21 n.text)) = some S') :
    Calls Try.prog 46 #[ptr G.a, .int .i64 k] w fun e w' => e = .returned (.tuple #[]) ∧ MN G w F ids w' S' := by
  obtain ⟨T1, t1, hr⟩ := Option.bind_eq_some_iff.1 hr
  have H1 := hid t1
  have H2 := hid hr
  clear t1 hr
  obtain ⟨A3, c3, A4, c4, hkl, n0, n1, n2, n3, n4, n5, nb, l3, f3, l4, f4⟩ := h.box hn
  have hkl' : (k : Int) < (G.l.length : Int) := by omega
  have g0 := h.c0
  have hal := h.lt.1
  have hgl := cell_lt n0
  dsimp only at hgl
  have hb := (Below.refl w.heap.size w).alloc (Nat.le_refl _) (.cells #[.int .i64 n.kind, .int .i64 n.num, .string n.text, .slice A3 n.names.length c3, .slice A4 n.kids.length c4, .int .i64 n.at_] 37)
  have NB := hid (show NBx G (w.alloc (.cells #[.int .i64 n.kind, .int .i64 n.num, .string n.text, .slice A3 n.names.length c3, .slice A4 n.kids.length c4, .int .i64 n.at_] 37)) w.heap.size n A3 c3 A4 c4 from nb)
  have HS0 := hid (h.below hb)
  have HN0 := hid h.free
  have HX := hid (h.below hb).same
  have HB := hid hb
  have IH := hid @ih
  have HNN := hid hn
  clear hb nb l3 f3 l4 f4 h ih hn
  have t3 : (n.kind == (3 : Int)) = false := by have := hkd.out; rw [beq_eq_false_iff_ne]; omega
  have t8 : (n.kind == (8 : Int)) = false := by have := hkd.out; rw [beq_eq_false_iff_ne]; omega
  have t9 : (n.kind == (9 : Int)) = false := by have := hkd.out; rw [beq_eq_false_iff_ne]; omega
  have t10 : (n.kind == (10 : Int)) = false := by have := hkd.out; rw [beq_eq_false_iff_ne]; omega
  have t11 : (n.kind == (11 : Int)) = false := by have := hkd.out; rw [beq_eq_false_iff_ne]; omega
  have t12 : (n.kind == (12 : Int)) = false := by have := hkd.out; rw [beq_eq_false_iff_ne]; omega
  have t13 : (n.kind == (13 : Int)) = false := by have := hkd.out; rw [beq_eq_false_iff_ne]; omega
  have t14 : (n.kind == (14 : Int)) = true := by have := hkd.out; rw [beq_iff_eq]; omega
  unfold ptr
  go_enter Try.func46, Try.ntmps46
  go_upto_region 1 with fail
  clear n0 n1 n2 n3 n4 n5 g0 hal hgl
  generalize w.alloc (.cells #[.int .i64 n.kind, .int .i64 n.num, .string n.text, .slice A3 n.names.length c3, .slice A4 n.kids.length c4, .int .i64 n.at_] 37) = W at *
  obtain ⟨F1, h1, k1, s1⟩ := id HX.out
  have b1 := NB.out.at HS0.out HN0.out k1
  have m0 := b1.m0
  have m1 := b1.m1
  have m2 := b1.m2
  have m3 := b1.m3
  have m4 := b1.m4
  have m5 := b1.m5
  have hc := literal_c h1 b1.l3 b1.f3 b1.l4 b1.f4 hl
  simp only [Option.isSome_none, Option.getD_none] at hc
  unfold ptr at hc
  have HC := hid hc
  have K := hid k1
  have SS := hid s1
  clear hc h1 k1 s1 b1 HX hl
  go_wp2_with fail
  refine HC.out.mono ?_
  rintro e w1 ⟨rfl, hN⟩
  have HX := hid (MN.of K.out SS.out hN)
  clear hN HC K SS m0 m1 m2 m3 m4 m5
  obtain ⟨F2, h2, k2, s2⟩ := id HX.out
  have b2 := NB.out.at HS0.out HN0.out k2
  have hc := stm_c h2 HNN.out IH.out hs
  simp only [Option.isSome_none, Option.getD_none] at hc
  unfold ptr at hc
  have HC := hid hc
  have K := hid k2
  have SS := hid s2
  clear hc h2 k2 s2 b2 HX hs
  go_wp2_with fail
  refine HC.out.mono ?_
  rintro e w2 ⟨rfl, hN⟩
  have HX := hid (MN.of K.out SS.out hN)
  clear hN HC K SS
  obtain ⟨F3, h3, k3, s3⟩ := id HX.out
  have b3 := NB.out.at HS0.out HN0.out k3
  have m0 := b3.m0
  have m4 := b3.m4
  have hc := mall_c (c := c4) IH.out h3 H1.out b3.f4
  unfold ptr at hc
  have HC := hid hc
  have K := hid k3
  have SS := hid s3
  clear hc h3 k3 s3 b3 HX
  go_wp2_with fail
  refine HC.out.mono ?_
  rintro e w3 ⟨rfl, hN⟩
  have HX := hid (MN.of K.out SS.out hN)
  clear hN HC K SS
  clear m0 m4
  obtain ⟨F4, h4, k4, s4⟩ := id HX.out
  have b4 := NB.out.at HS0.out HN0.out k4
  have m2 := b4.m2
  have hc := mtext_c h4 H2.out
  unfold ptr at hc
  have HC := hid hc
  have K := hid k4
  have SS := hid s4
  clear hc h4 k4 s4 b4 HX
  go_wp2_with fail
  refine HC.out.mono ?_
  rintro e w4 ⟨rfl, hN⟩
  have HX := hid (MN.of K.out SS.out hN)
  clear hN HC K SS
  clear m2
  go_wp2_with fail
  exact bodyPost_end (results_none rfl _ _ _) rfl ⟨rfl, MN.pre HB.out HX.out⟩
set_option maxHeartbeats 3200000 in
set_option maxRecDepth 100000 in
theorem node_binary (h : MS G w F ids S) (hn : G.l[k]? = some n) (ih : NodeOk G m) (hl : litM n S = some none) (hs : stmM G.l G.spots G.slots G.funs (nodeM G.l G.spots G.slots G.funs m) k n S = some none) (hkd : Box (n.kind = 15)) (hr : ((allM (nodeM G.l G.spots G.slots G.funs m) n.kids S).bind fun S1 => S1.put (iS 22 n.text)) = some S') :
    Calls Try.prog 46 #[ptr G.a, .int .i64 k] w fun e w' => e = .returned (.tuple #[]) ∧ MN G w F ids w' S' := by
  obtain ⟨T1, t1, hr⟩ := Option.bind_eq_some_iff.1 hr
  have H1 := hid t1
  have H2 := hid hr
  clear t1 hr
  obtain ⟨A3, c3, A4, c4, hkl, n0, n1, n2, n3, n4, n5, nb, l3, f3, l4, f4⟩ := h.box hn
  have hkl' : (k : Int) < (G.l.length : Int) := by omega
  have g0 := h.c0
  have hal := h.lt.1
  have hgl := cell_lt n0
  dsimp only at hgl
  have hb := (Below.refl w.heap.size w).alloc (Nat.le_refl _) (.cells #[.int .i64 n.kind, .int .i64 n.num, .string n.text, .slice A3 n.names.length c3, .slice A4 n.kids.length c4, .int .i64 n.at_] 37)
  have NB := hid (show NBx G (w.alloc (.cells #[.int .i64 n.kind, .int .i64 n.num, .string n.text, .slice A3 n.names.length c3, .slice A4 n.kids.length c4, .int .i64 n.at_] 37)) w.heap.size n A3 c3 A4 c4 from nb)
  have HS0 := hid (h.below hb)
  have HN0 := hid h.free
  have HX := hid (h.below hb).same
  have HB := hid hb
  have IH := hid @ih
  have HNN := hid hn
  clear hb nb l3 f3 l4 f4 h ih hn
  have t3 : (n.kind == (3 : Int)) = false := by have := hkd.out; rw [beq_eq_false_iff_ne]; omega
  have t8 : (n.kind == (8 : Int)) = false := by have := hkd.out; rw [beq_eq_false_iff_ne]; omega
  have t9 : (n.kind == (9 : Int)) = false := by have := hkd.out; rw [beq_eq_false_iff_ne]; omega
  have t10 : (n.kind == (10 : Int)) = false := by have := hkd.out; rw [beq_eq_false_iff_ne]; omega
  have t11 : (n.kind == (11 : Int)) = false := by have := hkd.out; rw [beq_eq_false_iff_ne]; omega
  have t12 : (n.kind == (12 : Int)) = false := by have := hkd.out; rw [beq_eq_false_iff_ne]; omega
  have t13 : (n.kind == (13 : Int)) = false := by have := hkd.out; rw [beq_eq_false_iff_ne]; omega
  have t14 : (n.kind == (14 : Int)) = false := by have := hkd.out; rw [beq_eq_false_iff_ne]; omega
  have t15 : (n.kind == (15 : Int)) = true := by have := hkd.out; rw [beq_iff_eq]; omega
  unfold ptr
  go_enter Try.func46, Try.ntmps46
  go_upto_region 1 with fail
  clear n0 n1 n2 n3 n4 n5 g0 hal hgl
  generalize w.alloc (.cells #[.int .i64 n.kind, .int .i64 n.num, .string n.text, .slice A3 n.names.length c3, .slice A4 n.kids.length c4, .int .i64 n.at_] 37) = W at *
  obtain ⟨F1, h1, k1, s1⟩ := id HX.out
  have b1 := NB.out.at HS0.out HN0.out k1
  have m0 := b1.m0
  have m1 := b1.m1
  have m2 := b1.m2
  have m3 := b1.m3
  have m4 := b1.m4
  have m5 := b1.m5
  have hc := literal_c h1 b1.l3 b1.f3 b1.l4 b1.f4 hl
  simp only [Option.isSome_none, Option.getD_none] at hc
  unfold ptr at hc
  have HC := hid hc
  have K := hid k1
  have SS := hid s1
  clear hc h1 k1 s1 b1 HX hl
  go_wp2_with fail
  refine HC.out.mono ?_
  rintro e w1 ⟨rfl, hN⟩
  have HX := hid (MN.of K.out SS.out hN)
  clear hN HC K SS m0 m1 m2 m3 m4 m5
  obtain ⟨F2, h2, k2, s2⟩ := id HX.out
  have b2 := NB.out.at HS0.out HN0.out k2
  have hc := stm_c h2 HNN.out IH.out hs
  simp only [Option.isSome_none, Option.getD_none] at hc
  unfold ptr at hc
  have HC := hid hc
  have K := hid k2
  have SS := hid s2
  clear hc h2 k2 s2 b2 HX hs
  go_wp2_with fail
  refine HC.out.mono ?_
  rintro e w2 ⟨rfl, hN⟩
  have HX := hid (MN.of K.out SS.out hN)
  clear hN HC K SS
  obtain ⟨F3, h3, k3, s3⟩ := id HX.out
  have b3 := NB.out.at HS0.out HN0.out k3
  have m0 := b3.m0
  have m4 := b3.m4
  have hc := mall_c (c := c4) IH.out h3 H1.out b3.f4
  unfold ptr at hc
  have HC := hid hc
  have K := hid k3
  have SS := hid s3
  clear hc h3 k3 s3 b3 HX
  go_wp2_with fail
  refine HC.out.mono ?_
  rintro e w3 ⟨rfl, hN⟩
  have HX := hid (MN.of K.out SS.out hN)
  clear hN HC K SS
  clear m0 m4
  obtain ⟨F4, h4, k4, s4⟩ := id HX.out
  have b4 := NB.out.at HS0.out HN0.out k4
  have m2 := b4.m2
  have hc := mtext_c h4 H2.out
  unfold ptr at hc
  have HC := hid hc
  have K := hid k4
  have SS := hid s4
  clear hc h4 k4 s4 b4 HX
  go_wp2_with fail
  refine HC.out.mono ?_
  rintro e w4 ⟨rfl, hN⟩
  have HX := hid (MN.of K.out SS.out hN)
  clear hN HC K SS
  clear m2
  go_wp2_with fail
  exact bodyPost_end (results_none rfl _ _ _) rfl ⟨rfl, MN.pre HB.out HX.out⟩
set_option maxHeartbeats 3200000 in
set_option maxRecDepth 100000 in
theorem node_and (h : MS G w F ids S) (hn : G.l[k]? = some n) (ih : NodeOk G m) (hl : litM n S = some none) (hs : stmM G.l G.spots G.slots G.funs (nodeM G.l G.spots G.slots G.funs m) k n S = some none) (hkd : Box (n.kind = 16)) (hr : eitherM (nodeM G.l G.spots G.slots G.funs m) 25 n S = some S') :
    Calls Try.prog 46 #[ptr G.a, .int .i64 k] w fun e w' => e = .returned (.tuple #[]) ∧ MN G w F ids w' S' := by
  have H1 := hid hr
  clear hr
  obtain ⟨A3, c3, A4, c4, hkl, n0, n1, n2, n3, n4, n5, nb, l3, f3, l4, f4⟩ := h.box hn
  have hkl' : (k : Int) < (G.l.length : Int) := by omega
  have g0 := h.c0
  have hal := h.lt.1
  have hgl := cell_lt n0
  dsimp only at hgl
  have hb := (Below.refl w.heap.size w).alloc (Nat.le_refl _) (.cells #[.int .i64 n.kind, .int .i64 n.num, .string n.text, .slice A3 n.names.length c3, .slice A4 n.kids.length c4, .int .i64 n.at_] 37)
  have NB := hid (show NBx G (w.alloc (.cells #[.int .i64 n.kind, .int .i64 n.num, .string n.text, .slice A3 n.names.length c3, .slice A4 n.kids.length c4, .int .i64 n.at_] 37)) w.heap.size n A3 c3 A4 c4 from nb)
  have HS0 := hid (h.below hb)
  have HN0 := hid h.free
  have HX := hid (h.below hb).same
  have HB := hid hb
  have IH := hid @ih
  have HNN := hid hn
  clear hb nb l3 f3 l4 f4 h ih hn
  have t3 : (n.kind == (3 : Int)) = false := by have := hkd.out; rw [beq_eq_false_iff_ne]; omega
  have t8 : (n.kind == (8 : Int)) = false := by have := hkd.out; rw [beq_eq_false_iff_ne]; omega
  have t9 : (n.kind == (9 : Int)) = false := by have := hkd.out; rw [beq_eq_false_iff_ne]; omega
  have t10 : (n.kind == (10 : Int)) = false := by have := hkd.out; rw [beq_eq_false_iff_ne]; omega
  have t11 : (n.kind == (11 : Int)) = false := by have := hkd.out; rw [beq_eq_false_iff_ne]; omega
  have t12 : (n.kind == (12 : Int)) = false := by have := hkd.out; rw [beq_eq_false_iff_ne]; omega
  have t13 : (n.kind == (13 : Int)) = false := by have := hkd.out; rw [beq_eq_false_iff_ne]; omega
  have t14 : (n.kind == (14 : Int)) = false := by have := hkd.out; rw [beq_eq_false_iff_ne]; omega
  have t15 : (n.kind == (15 : Int)) = false := by have := hkd.out; rw [beq_eq_false_iff_ne]; omega
  have t16 : (n.kind == (16 : Int)) = true := by have := hkd.out; rw [beq_iff_eq]; omega
  unfold ptr
  go_enter Try.func46, Try.ntmps46
  go_upto_region 1 with fail
  clear n0 n1 n2 n3 n4 n5 g0 hal hgl
  generalize w.alloc (.cells #[.int .i64 n.kind, .int .i64 n.num, .string n.text, .slice A3 n.names.length c3, .slice A4 n.kids.length c4, .int .i64 n.at_] 37) = W at *
  obtain ⟨F1, h1, k1, s1⟩ := id HX.out
  have b1 := NB.out.at HS0.out HN0.out k1
  have m0 := b1.m0
  have m1 := b1.m1
  have m2 := b1.m2
  have m3 := b1.m3
  have m4 := b1.m4
  have m5 := b1.m5
  have hc := literal_c h1 b1.l3 b1.f3 b1.l4 b1.f4 hl
  simp only [Option.isSome_none, Option.getD_none] at hc
  unfold ptr at hc
  have HC := hid hc
  have K := hid k1
  have SS := hid s1
  clear hc h1 k1 s1 b1 HX hl
  go_wp2_with fail
  refine HC.out.mono ?_
  rintro e w1 ⟨rfl, hN⟩
  have HX := hid (MN.of K.out SS.out hN)
  clear hN HC K SS m0 m1 m2 m3 m4 m5
  obtain ⟨F2, h2, k2, s2⟩ := id HX.out
  have b2 := NB.out.at HS0.out HN0.out k2
  have hc := stm_c h2 HNN.out IH.out hs
  simp only [Option.isSome_none, Option.getD_none] at hc
  unfold ptr at hc
  have HC := hid hc
  have K := hid k2
  have SS := hid s2
  clear hc h2 k2 s2 b2 HX hs
  go_wp2_with fail
  refine HC.out.mono ?_
  rintro e w2 ⟨rfl, hN⟩
  have HX := hid (MN.of K.out SS.out hN)
  clear hN HC K SS
  obtain ⟨F3, h3, k3, s3⟩ := id HX.out
  have b3 := NB.out.at HS0.out HN0.out k3
  have m0 := b3.m0
  have m1 := b3.m1
  have m2 := b3.m2
  have m3 := b3.m3
  have m4 := b3.m4
  have m5 := b3.m5
  have hc := either_c h3 b3.l3 b3.f3 b3.l4 b3.f4 @IH.out H1.out
  unfold ptr at hc
  have HC := hid hc
  have K := hid k3
  have SS := hid s3
  clear hc h3 k3 s3 b3 HX
  go_wp2_with fail
  refine HC.out.mono ?_
  rintro e w3 ⟨rfl, hN⟩
  have HX := hid (MN.of K.out SS.out hN)
  clear hN HC K SS
  clear m0 m1 m2 m3 m4 m5
  go_wp2_with fail
  exact bodyPost_end (results_none rfl _ _ _) rfl ⟨rfl, MN.pre HB.out HX.out⟩
set_option maxHeartbeats 3200000 in
set_option maxRecDepth 100000 in
theorem node_or (h : MS G w F ids S) (hn : G.l[k]? = some n) (ih : NodeOk G m) (hl : litM n S = some none) (hs : stmM G.l G.spots G.slots G.funs (nodeM G.l G.spots G.slots G.funs m) k n S = some none) (hkd : Box (n.kind = 17)) (hr : eitherM (nodeM G.l G.spots G.slots G.funs m) 26 n S = some S') :
    Calls Try.prog 46 #[ptr G.a, .int .i64 k] w fun e w' => e = .returned (.tuple #[]) ∧ MN G w F ids w' S' := by
  have H1 := hid hr
  clear hr
  obtain ⟨A3, c3, A4, c4, hkl, n0, n1, n2, n3, n4, n5, nb, l3, f3, l4, f4⟩ := h.box hn
  have hkl' : (k : Int) < (G.l.length : Int) := by omega
  have g0 := h.c0
  have hal := h.lt.1
  have hgl := cell_lt n0
  dsimp only at hgl
  have hb := (Below.refl w.heap.size w).alloc (Nat.le_refl _) (.cells #[.int .i64 n.kind, .int .i64 n.num, .string n.text, .slice A3 n.names.length c3, .slice A4 n.kids.length c4, .int .i64 n.at_] 37)
  have NB := hid (show NBx G (w.alloc (.cells #[.int .i64 n.kind, .int .i64 n.num, .string n.text, .slice A3 n.names.length c3, .slice A4 n.kids.length c4, .int .i64 n.at_] 37)) w.heap.size n A3 c3 A4 c4 from nb)
  have HS0 := hid (h.below hb)
  have HN0 := hid h.free
  have HX := hid (h.below hb).same
  have HB := hid hb
  have IH := hid @ih
  have HNN := hid hn
  clear hb nb l3 f3 l4 f4 h ih hn
  have t3 : (n.kind == (3 : Int)) = false := by have := hkd.out; rw [beq_eq_false_iff_ne]; omega
  have t8 : (n.kind == (8 : Int)) = false := by have := hkd.out; rw [beq_eq_false_iff_ne]; omega
  have t9 : (n.kind == (9 : Int)) = false := by have := hkd.out; rw [beq_eq_false_iff_ne]; omega
  have t10 : (n.kind == (10 : Int)) = false := by have := hkd.out; rw [beq_eq_false_iff_ne]; omega
  have t11 : (n.kind == (11 : Int)) = false := by have := hkd.out; rw [beq_eq_false_iff_ne]; omega
  have t12 : (n.kind == (12 : Int)) = false := by have := hkd.out; rw [beq_eq_false_iff_ne]; omega
  have t13 : (n.kind == (13 : Int)) = false := by have := hkd.out; rw [beq_eq_false_iff_ne]; omega
  have t14 : (n.kind == (14 : Int)) = false := by have := hkd.out; rw [beq_eq_false_iff_ne]; omega
  have t15 : (n.kind == (15 : Int)) = false := by have := hkd.out; rw [beq_eq_false_iff_ne]; omega
  have t16 : (n.kind == (16 : Int)) = false := by have := hkd.out; rw [beq_eq_false_iff_ne]; omega
  have t17 : (n.kind == (17 : Int)) = true := by have := hkd.out; rw [beq_iff_eq]; omega
  unfold ptr
  go_enter Try.func46, Try.ntmps46
  go_upto_region 1 with fail
  clear n0 n1 n2 n3 n4 n5 g0 hal hgl
  generalize w.alloc (.cells #[.int .i64 n.kind, .int .i64 n.num, .string n.text, .slice A3 n.names.length c3, .slice A4 n.kids.length c4, .int .i64 n.at_] 37) = W at *
  obtain ⟨F1, h1, k1, s1⟩ := id HX.out
  have b1 := NB.out.at HS0.out HN0.out k1
  have m0 := b1.m0
  have m1 := b1.m1
  have m2 := b1.m2
  have m3 := b1.m3
  have m4 := b1.m4
  have m5 := b1.m5
  have hc := literal_c h1 b1.l3 b1.f3 b1.l4 b1.f4 hl
  simp only [Option.isSome_none, Option.getD_none] at hc
  unfold ptr at hc
  have HC := hid hc
  have K := hid k1
  have SS := hid s1
  clear hc h1 k1 s1 b1 HX hl
  go_wp2_with fail
  refine HC.out.mono ?_
  rintro e w1 ⟨rfl, hN⟩
  have HX := hid (MN.of K.out SS.out hN)
  clear hN HC K SS m0 m1 m2 m3 m4 m5
  obtain ⟨F2, h2, k2, s2⟩ := id HX.out
  have b2 := NB.out.at HS0.out HN0.out k2
  have hc := stm_c h2 HNN.out IH.out hs
  simp only [Option.isSome_none, Option.getD_none] at hc
  unfold ptr at hc
  have HC := hid hc
  have K := hid k2
  have SS := hid s2
  clear hc h2 k2 s2 b2 HX hs
  go_wp2_with fail
  refine HC.out.mono ?_
  rintro e w2 ⟨rfl, hN⟩
  have HX := hid (MN.of K.out SS.out hN)
  clear hN HC K SS
  obtain ⟨F3, h3, k3, s3⟩ := id HX.out
  have b3 := NB.out.at HS0.out HN0.out k3
  have m0 := b3.m0
  have m1 := b3.m1
  have m2 := b3.m2
  have m3 := b3.m3
  have m4 := b3.m4
  have m5 := b3.m5
  have hc := either_c h3 b3.l3 b3.f3 b3.l4 b3.f4 @IH.out H1.out
  unfold ptr at hc
  have HC := hid hc
  have K := hid k3
  have SS := hid s3
  clear hc h3 k3 s3 b3 HX
  go_wp2_with fail
  refine HC.out.mono ?_
  rintro e w3 ⟨rfl, hN⟩
  have HX := hid (MN.of K.out SS.out hN)
  clear hN HC K SS
  clear m0 m1 m2 m3 m4 m5
  go_wp2_with fail
  exact bodyPost_end (results_none rfl _ _ _) rfl ⟨rfl, MN.pre HB.out HX.out⟩
set_option maxHeartbeats 3200000 in
set_option maxRecDepth 100000 in
theorem node_cond (h : MS G w F ids S) (hn : G.l[k]? = some n) (ih : NodeOk G m) (hl : litM n S = some none) (hs : stmM G.l G.spots G.slots G.funs (nodeM G.l G.spots G.slots G.funs m) k n S = some none) (hkd : Box (n.kind = 18)) (hr : branchM (nodeM G.l G.spots G.slots G.funs m) n S = some S') :
    Calls Try.prog 46 #[ptr G.a, .int .i64 k] w fun e w' => e = .returned (.tuple #[]) ∧ MN G w F ids w' S' := by
  have H1 := hid hr
  clear hr
  obtain ⟨A3, c3, A4, c4, hkl, n0, n1, n2, n3, n4, n5, nb, l3, f3, l4, f4⟩ := h.box hn
  have hkl' : (k : Int) < (G.l.length : Int) := by omega
  have g0 := h.c0
  have hal := h.lt.1
  have hgl := cell_lt n0
  dsimp only at hgl
  have hb := (Below.refl w.heap.size w).alloc (Nat.le_refl _) (.cells #[.int .i64 n.kind, .int .i64 n.num, .string n.text, .slice A3 n.names.length c3, .slice A4 n.kids.length c4, .int .i64 n.at_] 37)
  have NB := hid (show NBx G (w.alloc (.cells #[.int .i64 n.kind, .int .i64 n.num, .string n.text, .slice A3 n.names.length c3, .slice A4 n.kids.length c4, .int .i64 n.at_] 37)) w.heap.size n A3 c3 A4 c4 from nb)
  have HS0 := hid (h.below hb)
  have HN0 := hid h.free
  have HX := hid (h.below hb).same
  have HB := hid hb
  have IH := hid @ih
  have HNN := hid hn
  clear hb nb l3 f3 l4 f4 h ih hn
  have t3 : (n.kind == (3 : Int)) = false := by have := hkd.out; rw [beq_eq_false_iff_ne]; omega
  have t8 : (n.kind == (8 : Int)) = false := by have := hkd.out; rw [beq_eq_false_iff_ne]; omega
  have t9 : (n.kind == (9 : Int)) = false := by have := hkd.out; rw [beq_eq_false_iff_ne]; omega
  have t10 : (n.kind == (10 : Int)) = false := by have := hkd.out; rw [beq_eq_false_iff_ne]; omega
  have t11 : (n.kind == (11 : Int)) = false := by have := hkd.out; rw [beq_eq_false_iff_ne]; omega
  have t12 : (n.kind == (12 : Int)) = false := by have := hkd.out; rw [beq_eq_false_iff_ne]; omega
  have t13 : (n.kind == (13 : Int)) = false := by have := hkd.out; rw [beq_eq_false_iff_ne]; omega
  have t14 : (n.kind == (14 : Int)) = false := by have := hkd.out; rw [beq_eq_false_iff_ne]; omega
  have t15 : (n.kind == (15 : Int)) = false := by have := hkd.out; rw [beq_eq_false_iff_ne]; omega
  have t16 : (n.kind == (16 : Int)) = false := by have := hkd.out; rw [beq_eq_false_iff_ne]; omega
  have t17 : (n.kind == (17 : Int)) = false := by have := hkd.out; rw [beq_eq_false_iff_ne]; omega
  have t18 : (n.kind == (18 : Int)) = true := by have := hkd.out; rw [beq_iff_eq]; omega
  unfold ptr
  go_enter Try.func46, Try.ntmps46
  go_upto_region 1 with fail
  clear n0 n1 n2 n3 n4 n5 g0 hal hgl
  generalize w.alloc (.cells #[.int .i64 n.kind, .int .i64 n.num, .string n.text, .slice A3 n.names.length c3, .slice A4 n.kids.length c4, .int .i64 n.at_] 37) = W at *
  obtain ⟨F1, h1, k1, s1⟩ := id HX.out
  have b1 := NB.out.at HS0.out HN0.out k1
  have m0 := b1.m0
  have m1 := b1.m1
  have m2 := b1.m2
  have m3 := b1.m3
  have m4 := b1.m4
  have m5 := b1.m5
  have hc := literal_c h1 b1.l3 b1.f3 b1.l4 b1.f4 hl
  simp only [Option.isSome_none, Option.getD_none] at hc
  unfold ptr at hc
  have HC := hid hc
  have K := hid k1
  have SS := hid s1
  clear hc h1 k1 s1 b1 HX hl
  go_wp2_with fail
  refine HC.out.mono ?_
  rintro e w1 ⟨rfl, hN⟩
  have HX := hid (MN.of K.out SS.out hN)
  clear hN HC K SS m0 m1 m2 m3 m4 m5
  obtain ⟨F2, h2, k2, s2⟩ := id HX.out
  have b2 := NB.out.at HS0.out HN0.out k2
  have hc := stm_c h2 HNN.out IH.out hs
  simp only [Option.isSome_none, Option.getD_none] at hc
  unfold ptr at hc
  have HC := hid hc
  have K := hid k2
  have SS := hid s2
  clear hc h2 k2 s2 b2 HX hs
  go_wp2_with fail
  refine HC.out.mono ?_
  rintro e w2 ⟨rfl, hN⟩
  have HX := hid (MN.of K.out SS.out hN)
  clear hN HC K SS
  obtain ⟨F3, h3, k3, s3⟩ := id HX.out
  have b3 := NB.out.at HS0.out HN0.out k3
  have m0 := b3.m0
  have m1 := b3.m1
  have m2 := b3.m2
  have m3 := b3.m3
  have m4 := b3.m4
  have m5 := b3.m5
  have hc := branch_c h3 b3.l3 b3.f3 b3.l4 b3.f4 @IH.out H1.out
  unfold ptr at hc
  have HC := hid hc
  have K := hid k3
  have SS := hid s3
  clear hc h3 k3 s3 b3 HX
  go_wp2_with fail
  refine HC.out.mono ?_
  rintro e w3 ⟨rfl, hN⟩
  have HX := hid (MN.of K.out SS.out hN)
  clear hN HC K SS
  clear m0 m1 m2 m3 m4 m5
  go_wp2_with fail
  exact bodyPost_end (results_none rfl _ _ _) rfl ⟨rfl, MN.pre HB.out HX.out⟩
set_option maxHeartbeats 3200000 in
set_option maxRecDepth 100000 in
theorem node_set (h : MS G w F ids S) (hn : G.l[k]? = some n) (ih : NodeOk G m) (hl : litM n S = some none) (hs : stmM G.l G.spots G.slots G.funs (nodeM G.l G.spots G.slots G.funs m) k n S = some none) (hkd : Box (n.kind = 19)) (hr : setM G.l G.spots (nodeM G.l G.spots G.slots G.funs m) n S = some S') :
    Calls Try.prog 46 #[ptr G.a, .int .i64 k] w fun e w' => e = .returned (.tuple #[]) ∧ MN G w F ids w' S' := by
  have H1 := hid hr
  clear hr
  obtain ⟨A3, c3, A4, c4, hkl, n0, n1, n2, n3, n4, n5, nb, l3, f3, l4, f4⟩ := h.box hn
  have hkl' : (k : Int) < (G.l.length : Int) := by omega
  have g0 := h.c0
  have hal := h.lt.1
  have hgl := cell_lt n0
  dsimp only at hgl
  have hb := (Below.refl w.heap.size w).alloc (Nat.le_refl _) (.cells #[.int .i64 n.kind, .int .i64 n.num, .string n.text, .slice A3 n.names.length c3, .slice A4 n.kids.length c4, .int .i64 n.at_] 37)
  have NB := hid (show NBx G (w.alloc (.cells #[.int .i64 n.kind, .int .i64 n.num, .string n.text, .slice A3 n.names.length c3, .slice A4 n.kids.length c4, .int .i64 n.at_] 37)) w.heap.size n A3 c3 A4 c4 from nb)
  have HS0 := hid (h.below hb)
  have HN0 := hid h.free
  have HX := hid (h.below hb).same
  have HB := hid hb
  have IH := hid @ih
  have HNN := hid hn
  clear hb nb l3 f3 l4 f4 h ih hn
  have t3 : (n.kind == (3 : Int)) = false := by have := hkd.out; rw [beq_eq_false_iff_ne]; omega
  have t8 : (n.kind == (8 : Int)) = false := by have := hkd.out; rw [beq_eq_false_iff_ne]; omega
  have t9 : (n.kind == (9 : Int)) = false := by have := hkd.out; rw [beq_eq_false_iff_ne]; omega
  have t10 : (n.kind == (10 : Int)) = false := by have := hkd.out; rw [beq_eq_false_iff_ne]; omega
  have t11 : (n.kind == (11 : Int)) = false := by have := hkd.out; rw [beq_eq_false_iff_ne]; omega
  have t12 : (n.kind == (12 : Int)) = false := by have := hkd.out; rw [beq_eq_false_iff_ne]; omega
  have t13 : (n.kind == (13 : Int)) = false := by have := hkd.out; rw [beq_eq_false_iff_ne]; omega
  have t14 : (n.kind == (14 : Int)) = false := by have := hkd.out; rw [beq_eq_false_iff_ne]; omega
  have t15 : (n.kind == (15 : Int)) = false := by have := hkd.out; rw [beq_eq_false_iff_ne]; omega
  have t16 : (n.kind == (16 : Int)) = false := by have := hkd.out; rw [beq_eq_false_iff_ne]; omega
  have t17 : (n.kind == (17 : Int)) = false := by have := hkd.out; rw [beq_eq_false_iff_ne]; omega
  have t18 : (n.kind == (18 : Int)) = false := by have := hkd.out; rw [beq_eq_false_iff_ne]; omega
  have t19 : (n.kind == (19 : Int)) = true := by have := hkd.out; rw [beq_iff_eq]; omega
  unfold ptr
  go_enter Try.func46, Try.ntmps46
  go_upto_region 1 with fail
  clear n0 n1 n2 n3 n4 n5 g0 hal hgl
  generalize w.alloc (.cells #[.int .i64 n.kind, .int .i64 n.num, .string n.text, .slice A3 n.names.length c3, .slice A4 n.kids.length c4, .int .i64 n.at_] 37) = W at *
  obtain ⟨F1, h1, k1, s1⟩ := id HX.out
  have b1 := NB.out.at HS0.out HN0.out k1
  have m0 := b1.m0
  have m1 := b1.m1
  have m2 := b1.m2
  have m3 := b1.m3
  have m4 := b1.m4
  have m5 := b1.m5
  have hc := literal_c h1 b1.l3 b1.f3 b1.l4 b1.f4 hl
  simp only [Option.isSome_none, Option.getD_none] at hc
  unfold ptr at hc
  have HC := hid hc
  have K := hid k1
  have SS := hid s1
  clear hc h1 k1 s1 b1 HX hl
  go_wp2_with fail
  refine HC.out.mono ?_
  rintro e w1 ⟨rfl, hN⟩
  have HX := hid (MN.of K.out SS.out hN)
  clear hN HC K SS m0 m1 m2 m3 m4 m5
  obtain ⟨F2, h2, k2, s2⟩ := id HX.out
  have b2 := NB.out.at HS0.out HN0.out k2
  have hc := stm_c h2 HNN.out IH.out hs
  simp only [Option.isSome_none, Option.getD_none] at hc
  unfold ptr at hc
  have HC := hid hc
  have K := hid k2
  have SS := hid s2
  clear hc h2 k2 s2 b2 HX hs
  go_wp2_with fail
  refine HC.out.mono ?_
  rintro e w2 ⟨rfl, hN⟩
  have HX := hid (MN.of K.out SS.out hN)
  clear hN HC K SS
  obtain ⟨F3, h3, k3, s3⟩ := id HX.out
  have b3 := NB.out.at HS0.out HN0.out k3
  have m0 := b3.m0
  have m1 := b3.m1
  have m2 := b3.m2
  have m3 := b3.m3
  have m4 := b3.m4
  have m5 := b3.m5
  have hc := mset_c h3 b3.l3 b3.f3 b3.l4 b3.f4 @IH.out H1.out
  unfold ptr at hc
  have HC := hid hc
  have K := hid k3
  have SS := hid s3
  clear hc h3 k3 s3 b3 HX
  go_wp2_with fail
  refine HC.out.mono ?_
  rintro e w3 ⟨rfl, hN⟩
  have HX := hid (MN.of K.out SS.out hN)
  clear hN HC K SS
  clear m0 m1 m2 m3 m4 m5
  go_wp2_with fail
  exact bodyPost_end (results_none rfl _ _ _) rfl ⟨rfl, MN.pre HB.out HX.out⟩
set_option maxHeartbeats 3200000 in
set_option maxRecDepth 100000 in
theorem node_yield (h : MS G w F ids S) (hn : G.l[k]? = some n) (ih : NodeOk G m) (hl : litM n S = some none) (hs : stmM G.l G.spots G.slots G.funs (nodeM G.l G.spots G.slots G.funs m) k n S = some none) (hkd : Box (n.kind = 20)) (hr : ((allM (nodeM G.l G.spots G.slots G.funs m) n.kids S).bind fun S1 => S1.put (iN 37 0)) = some S') :
    Calls Try.prog 46 #[ptr G.a, .int .i64 k] w fun e w' => e = .returned (.tuple #[]) ∧ MN G w F ids w' S' := by
  obtain ⟨T1, t1, hr⟩ := Option.bind_eq_some_iff.1 hr
  have H1 := hid t1
  have H2 := hid hr
  clear t1 hr
  obtain ⟨A3, c3, A4, c4, hkl, n0, n1, n2, n3, n4, n5, nb, l3, f3, l4, f4⟩ := h.box hn
  have hkl' : (k : Int) < (G.l.length : Int) := by omega
  have g0 := h.c0
  have hal := h.lt.1
  have hgl := cell_lt n0
  dsimp only at hgl
  have hb := (Below.refl w.heap.size w).alloc (Nat.le_refl _) (.cells #[.int .i64 n.kind, .int .i64 n.num, .string n.text, .slice A3 n.names.length c3, .slice A4 n.kids.length c4, .int .i64 n.at_] 37)
  have NB := hid (show NBx G (w.alloc (.cells #[.int .i64 n.kind, .int .i64 n.num, .string n.text, .slice A3 n.names.length c3, .slice A4 n.kids.length c4, .int .i64 n.at_] 37)) w.heap.size n A3 c3 A4 c4 from nb)
  have HS0 := hid (h.below hb)
  have HN0 := hid h.free
  have HX := hid (h.below hb).same
  have HB := hid hb
  have IH := hid @ih
  have HNN := hid hn
  clear hb nb l3 f3 l4 f4 h ih hn
  have t3 : (n.kind == (3 : Int)) = false := by have := hkd.out; rw [beq_eq_false_iff_ne]; omega
  have t8 : (n.kind == (8 : Int)) = false := by have := hkd.out; rw [beq_eq_false_iff_ne]; omega
  have t9 : (n.kind == (9 : Int)) = false := by have := hkd.out; rw [beq_eq_false_iff_ne]; omega
  have t10 : (n.kind == (10 : Int)) = false := by have := hkd.out; rw [beq_eq_false_iff_ne]; omega
  have t11 : (n.kind == (11 : Int)) = false := by have := hkd.out; rw [beq_eq_false_iff_ne]; omega
  have t12 : (n.kind == (12 : Int)) = false := by have := hkd.out; rw [beq_eq_false_iff_ne]; omega
  have t13 : (n.kind == (13 : Int)) = false := by have := hkd.out; rw [beq_eq_false_iff_ne]; omega
  have t14 : (n.kind == (14 : Int)) = false := by have := hkd.out; rw [beq_eq_false_iff_ne]; omega
  have t15 : (n.kind == (15 : Int)) = false := by have := hkd.out; rw [beq_eq_false_iff_ne]; omega
  have t16 : (n.kind == (16 : Int)) = false := by have := hkd.out; rw [beq_eq_false_iff_ne]; omega
  have t17 : (n.kind == (17 : Int)) = false := by have := hkd.out; rw [beq_eq_false_iff_ne]; omega
  have t18 : (n.kind == (18 : Int)) = false := by have := hkd.out; rw [beq_eq_false_iff_ne]; omega
  have t19 : (n.kind == (19 : Int)) = false := by have := hkd.out; rw [beq_eq_false_iff_ne]; omega
  have t20 : (n.kind == (20 : Int)) = true := by have := hkd.out; rw [beq_iff_eq]; omega
  unfold ptr
  go_enter Try.func46, Try.ntmps46
  go_upto_region 1 with fail
  clear n0 n1 n2 n3 n4 n5 g0 hal hgl
  generalize w.alloc (.cells #[.int .i64 n.kind, .int .i64 n.num, .string n.text, .slice A3 n.names.length c3, .slice A4 n.kids.length c4, .int .i64 n.at_] 37) = W at *
  obtain ⟨F1, h1, k1, s1⟩ := id HX.out
  have b1 := NB.out.at HS0.out HN0.out k1
  have m0 := b1.m0
  have m1 := b1.m1
  have m2 := b1.m2
  have m3 := b1.m3
  have m4 := b1.m4
  have m5 := b1.m5
  have hc := literal_c h1 b1.l3 b1.f3 b1.l4 b1.f4 hl
  simp only [Option.isSome_none, Option.getD_none] at hc
  unfold ptr at hc
  have HC := hid hc
  have K := hid k1
  have SS := hid s1
  clear hc h1 k1 s1 b1 HX hl
  go_wp2_with fail
  refine HC.out.mono ?_
  rintro e w1 ⟨rfl, hN⟩
  have HX := hid (MN.of K.out SS.out hN)
  clear hN HC K SS m0 m1 m2 m3 m4 m5
  obtain ⟨F2, h2, k2, s2⟩ := id HX.out
  have b2 := NB.out.at HS0.out HN0.out k2
  have hc := stm_c h2 HNN.out IH.out hs
  simp only [Option.isSome_none, Option.getD_none] at hc
  unfold ptr at hc
  have HC := hid hc
  have K := hid k2
  have SS := hid s2
  clear hc h2 k2 s2 b2 HX hs
  go_wp2_with fail
  refine HC.out.mono ?_
  rintro e w2 ⟨rfl, hN⟩
  have HX := hid (MN.of K.out SS.out hN)
  clear hN HC K SS
  obtain ⟨F3, h3, k3, s3⟩ := id HX.out
  have b3 := NB.out.at HS0.out HN0.out k3
  have m0 := b3.m0
  have m4 := b3.m4
  have hc := mall_c (c := c4) IH.out h3 H1.out b3.f4
  unfold ptr at hc
  have HC := hid hc
  have K := hid k3
  have SS := hid s3
  clear hc h3 k3 s3 b3 HX
  go_wp2_with fail
  refine HC.out.mono ?_
  rintro e w3 ⟨rfl, hN⟩
  have HX := hid (MN.of K.out SS.out hN)
  clear hN HC K SS
  clear m0 m4
  obtain ⟨F4, h4, k4, s4⟩ := id HX.out
  have b4 := NB.out.at HS0.out HN0.out k4
  have hc := mput_c h4 H2.out
  unfold ptr at hc
  have HC := hid hc
  have K := hid k4
  have SS := hid s4
  clear hc h4 k4 s4 b4 HX
  go_wp2_with fail
  refine HC.out.mono ?_
  rintro e w4 ⟨rfl, hN⟩
  have HX := hid (MN.of K.out SS.out hN)
  clear hN HC K SS
  go_wp2_with fail
  exact bodyPost_end (results_none rfl _ _ _) rfl ⟨rfl, MN.pre HB.out HX.out⟩
set_option maxHeartbeats 3200000 in
set_option maxRecDepth 100000 in
theorem node_other (h : MS G w F ids S) (hn : G.l[k]? = some n) (ih : NodeOk G m) (hl : litM n S = some none) (hs : stmM G.l G.spots G.slots G.funs (nodeM G.l G.spots G.slots G.funs m) k n S = some none) (hkd : Box (n.kind < 3 ∨ 3 < n.kind ∧ n.kind < 8 ∨ 20 < n.kind)) (hr : some S = some S') :
    Calls Try.prog 46 #[ptr G.a, .int .i64 k] w fun e w' => e = .returned (.tuple #[]) ∧ MN G w F ids w' S' := by
  obtain rfl := Option.some.inj hr
  clear hr
  obtain ⟨A3, c3, A4, c4, hkl, n0, n1, n2, n3, n4, n5, nb, l3, f3, l4, f4⟩ := h.box hn
  have hkl' : (k : Int) < (G.l.length : Int) := by omega
  have g0 := h.c0
  have hal := h.lt.1
  have hgl := cell_lt n0
  dsimp only at hgl
  have hb := (Below.refl w.heap.size w).alloc (Nat.le_refl _) (.cells #[.int .i64 n.kind, .int .i64 n.num, .string n.text, .slice A3 n.names.length c3, .slice A4 n.kids.length c4, .int .i64 n.at_] 37)
  have NB := hid (show NBx G (w.alloc (.cells #[.int .i64 n.kind, .int .i64 n.num, .string n.text, .slice A3 n.names.length c3, .slice A4 n.kids.length c4, .int .i64 n.at_] 37)) w.heap.size n A3 c3 A4 c4 from nb)
  have HS0 := hid (h.below hb)
  have HN0 := hid h.free
  have HX := hid (h.below hb).same
  have HB := hid hb
  have IH := hid @ih
  have HNN := hid hn
  clear hb nb l3 f3 l4 f4 h ih hn
  have t3 : (n.kind == (3 : Int)) = false := by have := hkd.out; rw [beq_eq_false_iff_ne]; omega
  have t8 : (n.kind == (8 : Int)) = false := by have := hkd.out; rw [beq_eq_false_iff_ne]; omega
  have t9 : (n.kind == (9 : Int)) = false := by have := hkd.out; rw [beq_eq_false_iff_ne]; omega
  have t10 : (n.kind == (10 : Int)) = false := by have := hkd.out; rw [beq_eq_false_iff_ne]; omega
  have t11 : (n.kind == (11 : Int)) = false := by have := hkd.out; rw [beq_eq_false_iff_ne]; omega
  have t12 : (n.kind == (12 : Int)) = false := by have := hkd.out; rw [beq_eq_false_iff_ne]; omega
  have t13 : (n.kind == (13 : Int)) = false := by have := hkd.out; rw [beq_eq_false_iff_ne]; omega
  have t14 : (n.kind == (14 : Int)) = false := by have := hkd.out; rw [beq_eq_false_iff_ne]; omega
  have t15 : (n.kind == (15 : Int)) = false := by have := hkd.out; rw [beq_eq_false_iff_ne]; omega
  have t16 : (n.kind == (16 : Int)) = false := by have := hkd.out; rw [beq_eq_false_iff_ne]; omega
  have t17 : (n.kind == (17 : Int)) = false := by have := hkd.out; rw [beq_eq_false_iff_ne]; omega
  have t18 : (n.kind == (18 : Int)) = false := by have := hkd.out; rw [beq_eq_false_iff_ne]; omega
  have t19 : (n.kind == (19 : Int)) = false := by have := hkd.out; rw [beq_eq_false_iff_ne]; omega
  have t20 : (n.kind == (20 : Int)) = false := by have := hkd.out; rw [beq_eq_false_iff_ne]; omega
  unfold ptr
  go_enter Try.func46, Try.ntmps46
  go_upto_region 1 with fail
  clear n0 n1 n2 n3 n4 n5 g0 hal hgl
  generalize w.alloc (.cells #[.int .i64 n.kind, .int .i64 n.num, .string n.text, .slice A3 n.names.length c3, .slice A4 n.kids.length c4, .int .i64 n.at_] 37) = W at *
  obtain ⟨F1, h1, k1, s1⟩ := id HX.out
  have b1 := NB.out.at HS0.out HN0.out k1
  have m0 := b1.m0
  have m1 := b1.m1
  have m2 := b1.m2
  have m3 := b1.m3
  have m4 := b1.m4
  have m5 := b1.m5
  have hc := literal_c h1 b1.l3 b1.f3 b1.l4 b1.f4 hl
  simp only [Option.isSome_none, Option.getD_none] at hc
  unfold ptr at hc
  have HC := hid hc
  have K := hid k1
  have SS := hid s1
  clear hc h1 k1 s1 b1 HX hl
  go_wp2_with fail
  refine HC.out.mono ?_
  rintro e w1 ⟨rfl, hN⟩
  have HX := hid (MN.of K.out SS.out hN)
  clear hN HC K SS m0 m1 m2 m3 m4 m5
  obtain ⟨F2, h2, k2, s2⟩ := id HX.out
  have b2 := NB.out.at HS0.out HN0.out k2
  have hc := stm_c h2 HNN.out IH.out hs
  simp only [Option.isSome_none, Option.getD_none] at hc
  unfold ptr at hc
  have HC := hid hc
  have K := hid k2
  have SS := hid s2
  clear hc h2 k2 s2 b2 HX hs
  go_wp2_with fail
  refine HC.out.mono ?_
  rintro e w2 ⟨rfl, hN⟩
  have HX := hid (MN.of K.out SS.out hN)
  clear hN HC K SS
  have m0 : _ := (NB.out.at HS0.out HN0.out (HX.out.choose_spec.2.1)).m0
  go_wp2_with fail
  exact bodyPost_end (results_none rfl _ _ _) rfl ⟨rfl, MN.pre HB.out HX.out⟩
/-- node, one call deeper. -/
theorem node_ok (ih : NodeOk G m) : NodeOk G (m + 1) := by
  intro k S S' hr w F ids h
  unfold nodeM at hr
  obtain ⟨n, hn, hr⟩ := Option.bind_eq_some_iff.1 hr
  obtain ⟨x, hl, hr⟩ := Option.bind_eq_some_iff.1 hr
  cases x with
  | some S1 =>
    obtain rfl := Option.some.inj hr
    exact node_lit h hn ih hl
  | none =>
    obtain ⟨y, hs, hr⟩ := Option.bind_eq_some_iff.1 hr
    cases y with
    | some S1 =>
      obtain rfl := Option.some.inj hr
      exact node_stm h hn ih hl hs
    | none =>
      dsimp only at hr
      unfold exprM at hr
      by_cases g3 : n.kind = 3
      · rw [if_pos g3] at hr
        exact node_name h hn ih hl hs (hid g3) hr
      rw [if_neg g3] at hr
      by_cases g8 : n.kind = 8
      · rw [if_pos g8] at hr
        exact node_obj h hn ih hl hs (hid g8) hr
      rw [if_neg g8] at hr
      by_cases g9 : n.kind = 9
      · rw [if_pos g9] at hr
        exact node_arr h hn ih hl hs (hid g9) hr
      rw [if_neg g9] at hr
      by_cases g10 : n.kind = 10
      · rw [if_pos g10] at hr
        exact node_fun h hn ih hl hs (hid g10) hr
      rw [if_neg g10] at hr
      by_cases g11 : n.kind = 11
      · rw [if_pos g11] at hr
        exact node_get h hn ih hl hs (hid g11) hr
      rw [if_neg g11] at hr
      by_cases g12 : n.kind = 12
      · rw [if_pos g12] at hr
        exact node_at h hn ih hl hs (hid g12) hr
      rw [if_neg g12] at hr
      by_cases g13 : n.kind = 13
      · rw [if_pos g13] at hr
        exact node_call h hn ih hl hs (hid g13) hr
      rw [if_neg g13] at hr
      by_cases g14 : n.kind = 14
      · rw [if_pos g14] at hr
        exact node_unary h hn ih hl hs (hid g14) hr
      rw [if_neg g14] at hr
      by_cases g15 : n.kind = 15
      · rw [if_pos g15] at hr
        exact node_binary h hn ih hl hs (hid g15) hr
      rw [if_neg g15] at hr
      by_cases g16 : n.kind = 16
      · rw [if_pos g16] at hr
        exact node_and h hn ih hl hs (hid g16) hr
      rw [if_neg g16] at hr
      by_cases g17 : n.kind = 17
      · rw [if_pos g17] at hr
        exact node_or h hn ih hl hs (hid g17) hr
      rw [if_neg g17] at hr
      by_cases g18 : n.kind = 18
      · rw [if_pos g18] at hr
        exact node_cond h hn ih hl hs (hid g18) hr
      rw [if_neg g18] at hr
      by_cases g19 : n.kind = 19
      · rw [if_pos g19] at hr
        exact node_set h hn ih hl hs (hid g19) hr
      rw [if_neg g19] at hr
      by_cases g20 : n.kind = 20
      · rw [if_pos g20] at hr
        exact node_yield h hn ih hl hs (hid g20) hr
      rw [if_neg g20] at hr
      exact node_other h hn ih hl hs (hid (by omega)) hr
theorem nodeOk (G : MG) : ∀ m, NodeOk G m
  | 0 => fun hr => by cases hr
  | m + 1 => node_ok (nodeOk G m)
end
end Go.Proofs.Ytibepkblgliooaa.Q
