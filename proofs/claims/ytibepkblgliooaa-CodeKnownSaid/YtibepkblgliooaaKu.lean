/- What a proof further on needs (part u). -/
import Derived.Test.YtibepkblgliooaaKt
set_option linter.unusedVariables false
namespace Go.Proofs.Ytibepkblgliooaa.Q
open Go.RowKit
open Go.Proofs.YtibepkblgliooaaW.PrintWords
theorem awayOpn : ∀ {L : List Lv} {S S' : Mk}, awayF L S = some S' → S'.opn = S.opn
  | [], _, _, h => by cases h; rfl
  | .lp _ _ :: _, _, _, h => by cases h; rfl
  | .lv op :: r, S, S', h => by
    obtain ⟨T, ht, h⟩ := Option.bind_eq_some_iff.1 h
    rw [awayOpn h, putOpn ht]
section
variable {G : MG} {w0 w1 : World} {F1 okc oko f : Nat → Prop} {ids : List (Option Nat)} {T : Mk} {cv ov : Value} {p : Nat}
theorem outTop (h : MSi G w1 F1 ids T okc cv oko ov f) (hp : OutP w0 w1 G F1 (idF T.opn ids) p) : w1.cell? ⟨p, 0, none⟩ = some (.int .i64 (topF T.opn)) := by
  cases hi : idF T.opn ids with
  | some q =>
    rw [hi] at hp
    obtain rfl : p = q := hp
    obtain ⟨top, outs, vo, okO, a1, _, _, _, _, _, a7, _⟩ := h.lps.loop hi
    rw [a7]
    exact (cell_of_row _ _ 0 _ _ _ a1).trans rfl
  | none =>
    rw [hi] at hp
    rw [(addOut_none (j := 0) h.lps hi).2]
    exact (cell_of_row _ _ 0 _ _ _ hp.1).trans rfl
end
section
variable {G : MG} {w w' : World} {F : Nat → Prop} {ids : List (Option Nat)} {S S' : Mk} {n : Nd} {A3 A4 : Option Addr} {c3 c4 m k : Nat}
set_option maxHeartbeats 3200000 in
set_option maxRecDepth 100000 in
theorem stm_let21 (h : MS G w F ids S) (hn : G.l[k]? = some n) (ih : NodeOk G m) (hkd : Box (n.kind = 21)) (hr : ((allM (nodeM G.l G.spots G.slots G.funs m) n.kids S).bind fun S1 => (G.spots[k]?).bind fun sp => S1.put (iN 9 sp.slot)) = some S') :
    Calls Try.prog 56 #[ptr G.a, .int .i64 k] w fun e w' => e = .returned (.bool true) ∧ MN G w F ids w' S' := by
  obtain ⟨T1, t1, hr⟩ := Option.bind_eq_some_iff.1 hr
  obtain ⟨sp, hsp, hr⟩ := Option.bind_eq_some_iff.1 hr
  have H1 := hid t1
  have H2 := hid hr
  have HSP := hid hsp
  have hks := (List.getElem?_eq_some_iff.1 hsp).1
  clear t1 hr hsp
  obtain ⟨A3, c3, A4, c4, hkl, n0, n1, n2, n3, n4, n5, nb, l3, f3, l4, f4⟩ := h.box hn
  have hkl' : (k : Int) < (G.l.length : Int) := by omega
  have g0 := h.c0
  have hal := h.lt.1
  have hgl := cell_lt n0
  dsimp only at hgl
  have hb := (Below.refl w.heap.size w).alloc (Nat.le_refl _) (.cells #[.int .i64 n.kind, .int .i64 n.num, .string n.text, .slice A3 n.names.length c3, .slice A4 n.kids.length c4, .int .i64 n.at_] 37)
  have NB := hid (show NBx G (w.alloc (.cells #[.int .i64 n.kind, .int .i64 n.num, .string n.text, .slice A3 n.names.length c3, .slice A4 n.kids.length c4, .int .i64 n.at_] 37)) w.heap.size n A3 c3 A4 c4 from nb)
  have HS0 := hid (h.below hb)
  have HN0 := hid h.free
  have HX := hid (h.below hb).same
  have HB := hid hb
  have IH := hid @ih
  have FF := hid (And.intro (NB.out.f3) (NB.out.f4))
  have LL := hid (And.intro l3 l4)
  have H0 := hid h
  have HNN := hid hn
  clear hb nb l3 f3 l4 f4 h ih hn
  have t21 : (n.kind == (21 : Int)) = true := by have := hkd.out; rw [beq_iff_eq]; omega
  unfold ptr
  go_enter Try.func56, Try.ntmps56
  go_upto_region 2 with fail
  clear n0 n1 n2 n3 n4 n5 g0 hal hgl
  generalize w.alloc (.cells #[.int .i64 n.kind, .int .i64 n.num, .string n.text, .slice A3 n.names.length c3, .slice A4 n.kids.length c4, .int .i64 n.at_] 37) = W at *
  obtain ⟨F1, h1, k1, s1⟩ := id HX.out
  have b1 := NB.out.at HS0.out HN0.out k1
  have m0 := b1.m0
  have m4 := b1.m4
  have hc := mall_c (c := c4) IH.out h1 H1.out b1.f4
  unfold ptr at hc
  have HC := hid hc
  have K := hid k1
  have SS := hid s1
  clear hc h1 k1 s1 b1 HX
  go_wp2_with fail
  refine HC.out.mono ?_
  rintro e w1 ⟨rfl, hN⟩
  have HX := hid (MN.of K.out SS.out hN)
  clear hN HC K SS
  clear m0 m4
  obtain ⟨F2, h2, k2, s2⟩ := id HX.out
  have b2 := NB.out.at HS0.out HN0.out k2
  have c1 := h2.c1
  have d1 := (cell_of_row _ _ (k * 2 + 1) _ _ _ h2.sp).trans (c := some (Value.int .i64 sp.slot)) (by simpa using (spCells_at HSP.out).2)
  have hc := mnum_c h2 H2.out
  unfold ptr at hc
  have HC := hid hc
  have K := hid k2
  have SS := hid s2
  clear hc h2 k2 s2 b2 HX
  go_wp2_with fail
  refine HC.out.mono ?_
  rintro e w2 ⟨rfl, hN⟩
  have HX := hid (MN.of K.out SS.out hN)
  clear hN HC K SS
  clear c1 d1
  go_wp2_with fail
  go_ret
  exact ⟨rfl, MN.pre HB.out HX.out⟩
set_option maxHeartbeats 3200000 in
set_option maxRecDepth 100000 in
theorem stm_let22 (h : MS G w F ids S) (hn : G.l[k]? = some n) (ih : NodeOk G m) (hkd : Box (n.kind = 22)) (hr : ((allM (nodeM G.l G.spots G.slots G.funs m) n.kids S).bind fun S1 => (G.spots[k]?).bind fun sp => S1.put (iN 9 sp.slot)) = some S') :
    Calls Try.prog 56 #[ptr G.a, .int .i64 k] w fun e w' => e = .returned (.bool true) ∧ MN G w F ids w' S' := by
  obtain ⟨T1, t1, hr⟩ := Option.bind_eq_some_iff.1 hr
  obtain ⟨sp, hsp, hr⟩ := Option.bind_eq_some_iff.1 hr
  have H1 := hid t1
  have H2 := hid hr
  have HSP := hid hsp
  have hks := (List.getElem?_eq_some_iff.1 hsp).1
  clear t1 hr hsp
  obtain ⟨A3, c3, A4, c4, hkl, n0, n1, n2, n3, n4, n5, nb, l3, f3, l4, f4⟩ := h.box hn
  have hkl' : (k : Int) < (G.l.length : Int) := by omega
  have g0 := h.c0
  have hal := h.lt.1
  have hgl := cell_lt n0
  dsimp only at hgl
  have hb := (Below.refl w.heap.size w).alloc (Nat.le_refl _) (.cells #[.int .i64 n.kind, .int .i64 n.num, .string n.text, .slice A3 n.names.length c3, .slice A4 n.kids.length c4, .int .i64 n.at_] 37)
  have NB := hid (show NBx G (w.alloc (.cells #[.int .i64 n.kind, .int .i64 n.num, .string n.text, .slice A3 n.names.length c3, .slice A4 n.kids.length c4, .int .i64 n.at_] 37)) w.heap.size n A3 c3 A4 c4 from nb)
  have HS0 := hid (h.below hb)
  have HN0 := hid h.free
  have HX := hid (h.below hb).same
  have HB := hid hb
  have IH := hid @ih
  have FF := hid (And.intro (NB.out.f3) (NB.out.f4))
  have LL := hid (And.intro l3 l4)
  have H0 := hid h
  have HNN := hid hn
  clear hb nb l3 f3 l4 f4 h ih hn
  have t21 : (n.kind == (21 : Int)) = false := by have := hkd.out; rw [beq_eq_false_iff_ne]; omega
  have t22 : (n.kind == (22 : Int)) = true := by have := hkd.out; rw [beq_iff_eq]; omega
  unfold ptr
  go_enter Try.func56, Try.ntmps56
  go_upto_region 2 with fail
  clear n0 n1 n2 n3 n4 n5 g0 hal hgl
  generalize w.alloc (.cells #[.int .i64 n.kind, .int .i64 n.num, .string n.text, .slice A3 n.names.length c3, .slice A4 n.kids.length c4, .int .i64 n.at_] 37) = W at *
  obtain ⟨F1, h1, k1, s1⟩ := id HX.out
  have b1 := NB.out.at HS0.out HN0.out k1
  have m0 := b1.m0
  have m4 := b1.m4
  have hc := mall_c (c := c4) IH.out h1 H1.out b1.f4
  unfold ptr at hc
  have HC := hid hc
  have K := hid k1
  have SS := hid s1
  clear hc h1 k1 s1 b1 HX
  go_wp2_with fail
  refine HC.out.mono ?_
  rintro e w1 ⟨rfl, hN⟩
  have HX := hid (MN.of K.out SS.out hN)
  clear hN HC K SS
  clear m0 m4
  obtain ⟨F2, h2, k2, s2⟩ := id HX.out
  have b2 := NB.out.at HS0.out HN0.out k2
  have c1 := h2.c1
  have d1 := (cell_of_row _ _ (k * 2 + 1) _ _ _ h2.sp).trans (c := some (Value.int .i64 sp.slot)) (by simpa using (spCells_at HSP.out).2)
  have hc := mnum_c h2 H2.out
  unfold ptr at hc
  have HC := hid hc
  have K := hid k2
  have SS := hid s2
  clear hc h2 k2 s2 b2 HX
  go_wp2_with fail
  refine HC.out.mono ?_
  rintro e w2 ⟨rfl, hN⟩
  have HX := hid (MN.of K.out SS.out hN)
  clear hN HC K SS
  clear c1 d1
  go_wp2_with fail
  go_ret
  exact ⟨rfl, MN.pre HB.out HX.out⟩
set_option maxHeartbeats 3200000 in
set_option maxRecDepth 100000 in
theorem stm_def (h : MS G w F ids S) (hn : G.l[k]? = some n) (ih : NodeOk G m) (hkd : Box (n.kind = 23)) (hr : some S = some S') :
    Calls Try.prog 56 #[ptr G.a, .int .i64 k] w fun e w' => e = .returned (.bool true) ∧ MN G w F ids w' S' := by
  obtain rfl := Option.some.inj hr
  clear hr
  obtain ⟨A3, c3, A4, c4, hkl, n0, n1, n2, n3, n4, n5, nb, l3, f3, l4, f4⟩ := h.box hn
  have hkl' : (k : Int) < (G.l.length : Int) := by omega
  have g0 := h.c0
  have hal := h.lt.1
  have hgl := cell_lt n0
  dsimp only at hgl
  have hb := (Below.refl w.heap.size w).alloc (Nat.le_refl _) (.cells #[.int .i64 n.kind, .int .i64 n.num, .string n.text, .slice A3 n.names.length c3, .slice A4 n.kids.length c4, .int .i64 n.at_] 37)
  have NB := hid (show NBx G (w.alloc (.cells #[.int .i64 n.kind, .int .i64 n.num, .string n.text, .slice A3 n.names.length c3, .slice A4 n.kids.length c4, .int .i64 n.at_] 37)) w.heap.size n A3 c3 A4 c4 from nb)
  have HS0 := hid (h.below hb)
  have HN0 := hid h.free
  have HX := hid (h.below hb).same
  have HB := hid hb
  have IH := hid @ih
  have FF := hid (And.intro (NB.out.f3) (NB.out.f4))
  have LL := hid (And.intro l3 l4)
  have H0 := hid h
  have HNN := hid hn
  clear hb nb l3 f3 l4 f4 h ih hn
  have t21 : (n.kind == (21 : Int)) = false := by have := hkd.out; rw [beq_eq_false_iff_ne]; omega
  have t22 : (n.kind == (22 : Int)) = false := by have := hkd.out; rw [beq_eq_false_iff_ne]; omega
  have t23 : (n.kind == (23 : Int)) = true := by have := hkd.out; rw [beq_iff_eq]; omega
  unfold ptr
  go_enter Try.func56, Try.ntmps56
  go_upto_region 2 with fail
  clear n0 n1 n2 n3 n4 n5 g0 hal hgl
  generalize w.alloc (.cells #[.int .i64 n.kind, .int .i64 n.num, .string n.text, .slice A3 n.names.length c3, .slice A4 n.kids.length c4, .int .i64 n.at_] 37) = W at *
  have m0 := NB.out.m0
  go_wp2_with fail
  go_ret
  exact ⟨rfl, MN.pre HB.out HX.out⟩
set_option maxHeartbeats 3200000 in
set_option maxRecDepth 100000 in
theorem stm_expr (h : MS G w F ids S) (hn : G.l[k]? = some n) (ih : NodeOk G m) (hkd : Box (n.kind = 24)) (hr : ((allM (nodeM G.l G.spots G.slots G.funs m) n.kids S).bind fun S1 => S1.put (iN 11 0)) = some S') :
    Calls Try.prog 56 #[ptr G.a, .int .i64 k] w fun e w' => e = .returned (.bool true) ∧ MN G w F ids w' S' := by
  obtain ⟨T1, t1, hr⟩ := Option.bind_eq_some_iff.1 hr
  have H1 := hid t1
  have H2 := hid hr
  clear t1 hr
  obtain ⟨A3, c3, A4, c4, hkl, n0, n1, n2, n3, n4, n5, nb, l3, f3, l4, f4⟩ := h.box hn
  have hkl' : (k : Int) < (G.l.length : Int) := by omega
  have g0 := h.c0
  have hal := h.lt.1
  have hgl := cell_lt n0
  dsimp only at hgl
  have hb := (Below.refl w.heap.size w).alloc (Nat.le_refl _) (.cells #[.int .i64 n.kind, .int .i64 n.num, .string n.text, .slice A3 n.names.length c3, .slice A4 n.kids.length c4, .int .i64 n.at_] 37)
  have NB := hid (show NBx G (w.alloc (.cells #[.int .i64 n.kind, .int .i64 n.num, .string n.text, .slice A3 n.names.length c3, .slice A4 n.kids.length c4, .int .i64 n.at_] 37)) w.heap.size n A3 c3 A4 c4 from nb)
  have HS0 := hid (h.below hb)
  have HN0 := hid h.free
  have HX := hid (h.below hb).same
  have HB := hid hb
  have IH := hid @ih
  have FF := hid (And.intro (NB.out.f3) (NB.out.f4))
  have LL := hid (And.intro l3 l4)
  have H0 := hid h
  have HNN := hid hn
  clear hb nb l3 f3 l4 f4 h ih hn
  have t21 : (n.kind == (21 : Int)) = false := by have := hkd.out; rw [beq_eq_false_iff_ne]; omega
  have t22 : (n.kind == (22 : Int)) = false := by have := hkd.out; rw [beq_eq_false_iff_ne]; omega
  have t23 : (n.kind == (23 : Int)) = false := by have := hkd.out; rw [beq_eq_false_iff_ne]; omega
  have t24 : (n.kind == (24 : Int)) = true := by have := hkd.out; rw [beq_iff_eq]; omega
  unfold ptr
  go_enter Try.func56, Try.ntmps56
  go_upto_region 2 with fail
  clear n0 n1 n2 n3 n4 n5 g0 hal hgl
  generalize w.alloc (.cells #[.int .i64 n.kind, .int .i64 n.num, .string n.text, .slice A3 n.names.length c3, .slice A4 n.kids.length c4, .int .i64 n.at_] 37) = W at *
  obtain ⟨F1, h1, k1, s1⟩ := id HX.out
  have b1 := NB.out.at HS0.out HN0.out k1
  have m0 := b1.m0
  have m4 := b1.m4
  have hc := mall_c (c := c4) IH.out h1 H1.out b1.f4
  unfold ptr at hc
  have HC := hid hc
  have K := hid k1
  have SS := hid s1
  clear hc h1 k1 s1 b1 HX
  go_wp2_with fail
  refine HC.out.mono ?_
  rintro e w1 ⟨rfl, hN⟩
  have HX := hid (MN.of K.out SS.out hN)
  clear hN HC K SS
  clear m0 m4
  obtain ⟨F2, h2, k2, s2⟩ := id HX.out
  have b2 := NB.out.at HS0.out HN0.out k2
  have hc := mput_c h2 H2.out
  unfold ptr at hc
  have HC := hid hc
  have K := hid k2
  have SS := hid s2
  clear hc h2 k2 s2 b2 HX
  go_wp2_with fail
  refine HC.out.mono ?_
  rintro e w2 ⟨rfl, hN⟩
  have HX := hid (MN.of K.out SS.out hN)
  clear hN HC K SS
  go_wp2_with fail
  go_ret
  exact ⟨rfl, MN.pre HB.out HX.out⟩
set_option maxHeartbeats 3200000 in
set_option maxRecDepth 100000 in
theorem stm_block (h : MS G w F ids S) (hn : G.l[k]? = some n) (ih : NodeOk G m) (hkd : Box (n.kind = 25)) (hr : blockM G.l G.spots G.slots G.funs (nodeM G.l G.spots G.slots G.funs m) k n S = some S') :
    Calls Try.prog 56 #[ptr G.a, .int .i64 k] w fun e w' => e = .returned (.bool true) ∧ MN G w F ids w' S' := by
  have H1 := hid hr
  clear hr
  obtain ⟨A3, c3, A4, c4, hkl, n0, n1, n2, n3, n4, n5, nb, l3, f3, l4, f4⟩ := h.box hn
  have hkl' : (k : Int) < (G.l.length : Int) := by omega
  have g0 := h.c0
  have hal := h.lt.1
  have hgl := cell_lt n0
  dsimp only at hgl
  have hb := (Below.refl w.heap.size w).alloc (Nat.le_refl _) (.cells #[.int .i64 n.kind, .int .i64 n.num, .string n.text, .slice A3 n.names.length c3, .slice A4 n.kids.length c4, .int .i64 n.at_] 37)
  have NB := hid (show NBx G (w.alloc (.cells #[.int .i64 n.kind, .int .i64 n.num, .string n.text, .slice A3 n.names.length c3, .slice A4 n.kids.length c4, .int .i64 n.at_] 37)) w.heap.size n A3 c3 A4 c4 from nb)
  have HS0 := hid (h.below hb)
  have HN0 := hid h.free
  have HX := hid (h.below hb).same
  have HB := hid hb
  have IH := hid @ih
  have FF := hid (And.intro (NB.out.f3) (NB.out.f4))
  have LL := hid (And.intro l3 l4)
  have H0 := hid h
  have HNN := hid hn
  clear hb nb l3 f3 l4 f4 h ih hn
  have t21 : (n.kind == (21 : Int)) = false := by have := hkd.out; rw [beq_eq_false_iff_ne]; omega
  have t22 : (n.kind == (22 : Int)) = false := by have := hkd.out; rw [beq_eq_false_iff_ne]; omega
  have t23 : (n.kind == (23 : Int)) = false := by have := hkd.out; rw [beq_eq_false_iff_ne]; omega
  have t24 : (n.kind == (24 : Int)) = false := by have := hkd.out; rw [beq_eq_false_iff_ne]; omega
  have t25 : (n.kind == (25 : Int)) = true := by have := hkd.out; rw [beq_iff_eq]; omega
  unfold ptr
  go_enter Try.func56, Try.ntmps56
  go_upto_region 2 with fail
  clear n0 n1 n2 n3 n4 n5 g0 hal hgl
  generalize w.alloc (.cells #[.int .i64 n.kind, .int .i64 n.num, .string n.text, .slice A3 n.names.length c3, .slice A4 n.kids.length c4, .int .i64 n.at_] 37) = W at *
  obtain ⟨F1, h1, k1, s1⟩ := id HX.out
  have b1 := NB.out.at HS0.out HN0.out k1
  have m0 := b1.m0
  have hc := mblock_c h1 HNN.out @IH.out H1.out
  unfold ptr at hc
  have HC := hid hc
  have K := hid k1
  have SS := hid s1
  clear hc h1 k1 s1 b1 HX
  go_wp2_with fail
  refine HC.out.mono ?_
  rintro e w1 ⟨rfl, hN⟩
  have HX := hid (MN.of K.out SS.out hN)
  clear hN HC K SS
  clear m0
  go_wp2_with fail
  go_ret
  exact ⟨rfl, MN.pre HB.out HX.out⟩
set_option maxHeartbeats 3200000 in
set_option maxRecDepth 100000 in
theorem stm_if (h : MS G w F ids S) (hn : G.l[k]? = some n) (ih : NodeOk G m) (hkd : Box (n.kind = 26)) (hr : branchM (nodeM G.l G.spots G.slots G.funs m) n S = some S') :
    Calls Try.prog 56 #[ptr G.a, .int .i64 k] w fun e w' => e = .returned (.bool true) ∧ MN G w F ids w' S' := by
  have H1 := hid hr
  clear hr
  obtain ⟨A3, c3, A4, c4, hkl, n0, n1, n2, n3, n4, n5, nb, l3, f3, l4, f4⟩ := h.box hn
  have hkl' : (k : Int) < (G.l.length : Int) := by omega
  have g0 := h.c0
  have hal := h.lt.1
  have hgl := cell_lt n0
  dsimp only at hgl
  have hb := (Below.refl w.heap.size w).alloc (Nat.le_refl _) (.cells #[.int .i64 n.kind, .int .i64 n.num, .string n.text, .slice A3 n.names.length c3, .slice A4 n.kids.length c4, .int .i64 n.at_] 37)
  have NB := hid (show NBx G (w.alloc (.cells #[.int .i64 n.kind, .int .i64 n.num, .string n.text, .slice A3 n.names.length c3, .slice A4 n.kids.length c4, .int .i64 n.at_] 37)) w.heap.size n A3 c3 A4 c4 from nb)
  have HS0 := hid (h.below hb)
  have HN0 := hid h.free
  have HX := hid (h.below hb).same
  have HB := hid hb
  have IH := hid @ih
  have FF := hid (And.intro (NB.out.f3) (NB.out.f4))
  have LL := hid (And.intro l3 l4)
  have H0 := hid h
  have HNN := hid hn
  clear hb nb l3 f3 l4 f4 h ih hn
  have t21 : (n.kind == (21 : Int)) = false := by have := hkd.out; rw [beq_eq_false_iff_ne]; omega
  have t22 : (n.kind == (22 : Int)) = false := by have := hkd.out; rw [beq_eq_false_iff_ne]; omega
  have t23 : (n.kind == (23 : Int)) = false := by have := hkd.out; rw [beq_eq_false_iff_ne]; omega
  have t24 : (n.kind == (24 : Int)) = false := by have := hkd.out; rw [beq_eq_false_iff_ne]; omega
  have t25 : (n.kind == (25 : Int)) = false := by have := hkd.out; rw [beq_eq_false_iff_ne]; omega
  have t26 : (n.kind == (26 : Int)) = true := by have := hkd.out; rw [beq_iff_eq]; omega
  unfold ptr
  go_enter Try.func56, Try.ntmps56
  go_upto_region 2 with fail
  clear n0 n1 n2 n3 n4 n5 g0 hal hgl
  generalize w.alloc (.cells #[.int .i64 n.kind, .int .i64 n.num, .string n.text, .slice A3 n.names.length c3, .slice A4 n.kids.length c4, .int .i64 n.at_] 37) = W at *
  obtain ⟨F1, h1, k1, s1⟩ := id HX.out
  have b1 := NB.out.at HS0.out HN0.out k1
  have m0 := b1.m0
  have m1 := b1.m1
  have m2 := b1.m2
  have m3 := b1.m3
  have m4 := b1.m4
  have m5 := b1.m5
  have hc := branch_c h1 b1.l3 b1.f3 b1.l4 b1.f4 @IH.out H1.out
  unfold ptr at hc
  have HC := hid hc
  have K := hid k1
  have SS := hid s1
  clear hc h1 k1 s1 b1 HX
  go_wp2_with fail
  refine HC.out.mono ?_
  rintro e w1 ⟨rfl, hN⟩
  have HX := hid (MN.of K.out SS.out hN)
  clear hN HC K SS
  clear m0 m1 m2 m3 m4 m5
  go_wp2_with fail
  go_ret
  exact ⟨rfl, MN.pre HB.out HX.out⟩
set_option maxHeartbeats 3200000 in
set_option maxRecDepth 100000 in
theorem stm_while (h : MS G w F ids S) (hn : G.l[k]? = some n) (ih : NodeOk G m) (hkd : Box (n.kind = 27)) (hr : whileM (nodeM G.l G.spots G.slots G.funs m) n S = some S') :
    Calls Try.prog 56 #[ptr G.a, .int .i64 k] w fun e w' => e = .returned (.bool true) ∧ MN G w F ids w' S' := by
  have H1 := hid hr
  clear hr
  obtain ⟨A3, c3, A4, c4, hkl, n0, n1, n2, n3, n4, n5, nb, l3, f3, l4, f4⟩ := h.box hn
  have hkl' : (k : Int) < (G.l.length : Int) := by omega
  have g0 := h.c0
  have hal := h.lt.1
  have hgl := cell_lt n0
  dsimp only at hgl
  have hb := (Below.refl w.heap.size w).alloc (Nat.le_refl _) (.cells #[.int .i64 n.kind, .int .i64 n.num, .string n.text, .slice A3 n.names.length c3, .slice A4 n.kids.length c4, .int .i64 n.at_] 37)
  have NB := hid (show NBx G (w.alloc (.cells #[.int .i64 n.kind, .int .i64 n.num, .string n.text, .slice A3 n.names.length c3, .slice A4 n.kids.length c4, .int .i64 n.at_] 37)) w.heap.size n A3 c3 A4 c4 from nb)
  have HS0 := hid (h.below hb)
  have HN0 := hid h.free
  have HX := hid (h.below hb).same
  have HB := hid hb
  have IH := hid @ih
  have FF := hid (And.intro (NB.out.f3) (NB.out.f4))
  have LL := hid (And.intro l3 l4)
  have H0 := hid h
  have HNN := hid hn
  clear hb nb l3 f3 l4 f4 h ih hn
  have t21 : (n.kind == (21 : Int)) = false := by have := hkd.out; rw [beq_eq_false_iff_ne]; omega
  have t22 : (n.kind == (22 : Int)) = false := by have := hkd.out; rw [beq_eq_false_iff_ne]; omega
  have t23 : (n.kind == (23 : Int)) = false := by have := hkd.out; rw [beq_eq_false_iff_ne]; omega
  have t24 : (n.kind == (24 : Int)) = false := by have := hkd.out; rw [beq_eq_false_iff_ne]; omega
  have t25 : (n.kind == (25 : Int)) = false := by have := hkd.out; rw [beq_eq_false_iff_ne]; omega
  have t26 : (n.kind == (26 : Int)) = false := by have := hkd.out; rw [beq_eq_false_iff_ne]; omega
  have t27 : (n.kind == (27 : Int)) = true := by have := hkd.out; rw [beq_iff_eq]; omega
  unfold ptr
  go_enter Try.func56, Try.ntmps56
  go_upto_region 2 with fail
  clear n0 n1 n2 n3 n4 n5 g0 hal hgl
  generalize w.alloc (.cells #[.int .i64 n.kind, .int .i64 n.num, .string n.text, .slice A3 n.names.length c3, .slice A4 n.kids.length c4, .int .i64 n.at_] 37) = W at *
  obtain ⟨F1, h1, k1, s1⟩ := id HX.out
  have b1 := NB.out.at HS0.out HN0.out k1
  have m0 := b1.m0
  have m1 := b1.m1
  have m2 := b1.m2
  have m3 := b1.m3
  have m4 := b1.m4
  have m5 := b1.m5
  have hc := mwhile_c h1 b1.l3 b1.f3 b1.l4 b1.f4 @IH.out H1.out
  unfold ptr at hc
  have HC := hid hc
  have K := hid k1
  have SS := hid s1
  clear hc h1 k1 s1 b1 HX
  go_wp2_with fail
  refine HC.out.mono ?_
  rintro e w1 ⟨rfl, hN⟩
  have HX := hid (MN.of K.out SS.out hN)
  clear hN HC K SS
  clear m0 m1 m2 m3 m4 m5
  go_wp2_with fail
  go_ret
  exact ⟨rfl, MN.pre HB.out HX.out⟩
set_option maxHeartbeats 3200000 in
set_option maxRecDepth 100000 in
theorem stm_break (h : MS G w F ids S) (hn : G.l[k]? = some n) (ih : NodeOk G m) (hkd : Box (n.kind = 28)) (hr : ((awayF S.opn S).bind fun S1 => (S1.put (iN 23 0)).bind fun S2 => (addOut S1.code.length S2.opn).map fun o => ({ S2 with opn := o } : Mk)) = some S') :
    Calls Try.prog 56 #[ptr G.a, .int .i64 k] w fun e w' => e = .returned (.bool true) ∧ MN G w F ids w' S' := by
  obtain ⟨T1, t1, hr⟩ := Option.bind_eq_some_iff.1 hr
  obtain ⟨T2, t2, hr⟩ := Option.bind_eq_some_iff.1 hr
  obtain ⟨o, ho, rfl⟩ := Option.map_eq_some_iff.1 hr
  have H1 := hid t1
  have H2 := hid t2
  have HO := hid ho
  clear t1 t2 ho hr
  obtain ⟨A3, c3, A4, c4, hkl, n0, n1, n2, n3, n4, n5, nb, l3, f3, l4, f4⟩ := h.box hn
  have hkl' : (k : Int) < (G.l.length : Int) := by omega
  have g0 := h.c0
  have hal := h.lt.1
  have hgl := cell_lt n0
  dsimp only at hgl
  have hb := (Below.refl w.heap.size w).alloc (Nat.le_refl _) (.cells #[.int .i64 n.kind, .int .i64 n.num, .string n.text, .slice A3 n.names.length c3, .slice A4 n.kids.length c4, .int .i64 n.at_] 37)
  have NB := hid (show NBx G (w.alloc (.cells #[.int .i64 n.kind, .int .i64 n.num, .string n.text, .slice A3 n.names.length c3, .slice A4 n.kids.length c4, .int .i64 n.at_] 37)) w.heap.size n A3 c3 A4 c4 from nb)
  have HS0 := hid (h.below hb)
  have HN0 := hid h.free
  have HX := hid (h.below hb).same
  have HB := hid hb
  have IH := hid @ih
  have FF := hid (And.intro (NB.out.f3) (NB.out.f4))
  have LL := hid (And.intro l3 l4)
  have H0 := hid h
  have HNN := hid hn
  clear hb nb l3 f3 l4 f4 h ih hn
  have t21 : (n.kind == (21 : Int)) = false := by have := hkd.out; rw [beq_eq_false_iff_ne]; omega
  have t22 : (n.kind == (22 : Int)) = false := by have := hkd.out; rw [beq_eq_false_iff_ne]; omega
  have t23 : (n.kind == (23 : Int)) = false := by have := hkd.out; rw [beq_eq_false_iff_ne]; omega
  have t24 : (n.kind == (24 : Int)) = false := by have := hkd.out; rw [beq_eq_false_iff_ne]; omega
  have t25 : (n.kind == (25 : Int)) = false := by have := hkd.out; rw [beq_eq_false_iff_ne]; omega
  have t26 : (n.kind == (26 : Int)) = false := by have := hkd.out; rw [beq_eq_false_iff_ne]; omega
  have t27 : (n.kind == (27 : Int)) = false := by have := hkd.out; rw [beq_eq_false_iff_ne]; omega
  have t28 : (n.kind == (28 : Int)) = true := by have := hkd.out; rw [beq_iff_eq]; omega
  unfold ptr
  go_enter Try.func56, Try.ntmps56
  go_upto_region 2 with fail
  clear n0 n1 n2 n3 n4 n5 g0 hal hgl
  generalize w.alloc (.cells #[.int .i64 n.kind, .int .i64 n.num, .string n.text, .slice A3 n.names.length c3, .slice A4 n.kids.length c4, .int .i64 n.at_] 37) = W at *
  have m0 := NB.out.m0
  have hc := mout_c HS0.out H1.out
  unfold ptr at hc
  have HC := hid hc
  clear hc HX
  go_wp2_with fail
  refine HC.out.mono ?_
  rintro e w1 ⟨p, F1, rfl, ⟨okc, cv, oko, ov, f, h1⟩, k1, s1, hp⟩
  clear HC m0
  have ho := awayOpn H1.out
  rw [← ho] at hp
  obtain ⟨jy, hjy⟩ : ∃ jy, jy = T1.code.length := ⟨_, rfl⟩
  have HO' := HO.out
  rw [← hjy] at HO'
  obtain ⟨top, outs, vo, okO, hD⟩ := brkD HS0.out h1 hp HO' (putOpn H2.out)
  have HD := hid hD
  obtain ⟨a1, a2, a3, a4, a5, a6, _⟩ := hD
  have p1 := (cell_of_row _ _ 1 _ _ _ a1).trans (b := some vo) rfl
  have hpl := (Array.getElem?_eq_some_iff.1 a1).1
  have HM := hid h1
  have K := hid k1
  have SS := hid s1
  have hput := mput_i (h1.kp (K := fun _ => False) (Kp.of_below (below_drew (Below.refl _ _))) ⟨id, id, id, id⟩ (fun _ _ => id) (fun _ _ => id)) H2.out
  unfold ptr at hput
  rw [← hjy] at hput
  have HPUT := hid hput
  have N2 := hid (show vo.ownBlock ≠ some p from fun e => a3 (a2.1 _ e))
  obtain ⟨ok2, hok2⟩ : ∃ ok2 : World → Nat → Prop, ok2 = fun w2 k => okO k ∨ w2.heap.size ≤ k := ⟨_, rfl⟩
  have HOK := hid hok2
  have A2 := hid a2
  have A4 := hid a4
  have A5 := hid a5
  have A6 := hid a6
  clear hok2 h1 k1 s1 hp ho HO' hput a1 a2 a3 a4 a5 a6 hjy
  go_upto_region 20 with fail
  refine wp_region_until [11] (S := (fun w' => w'.cell? ⟨p, 1, none⟩ = some (vo))) (by kernel_rfl) ?_ ?_
  · go_keep
  intro hS
  refine wpAnyU_take (i := 0) (v := (.pointer (some ⟨p, 0, none⟩))) rfl (by kernel_rfl) (fun _ _ _ h => h) (leads_of [[11]] (by kernel_rfl)) (by kernel_rfl) (by kernel_rfl) (by kernel_rfl) (Or.inl ⟨by rfl, ?_⟩) hS ?_
  · intro w' hS'
    have s0 := hS'
    go_simp
  change wpAnyU _ _ _ _ _ _ _ _ (Act.put _ (some 63) _) _
  simp only [Act.put, List.setIfInBounds_toArray, List.set_cons_succ, List.set_cons_zero]
  refine wpAnyU_take (i := 1) (v := (.pointer (some ⟨p, 0, none⟩))) rfl (by kernel_rfl) (fun _ _ _ h => h) (leads_of [[11]] (by kernel_rfl)) (by kernel_rfl) (by kernel_rfl) (by kernel_rfl) (Or.inl ⟨by rfl, ?_⟩) hS ?_
  · intro w' hS'
    have s0 := hS'
    go_simp
  change wpAnyU _ _ _ _ _ _ _ _ (Act.put _ (some 64) _) _
  simp only [Act.put, List.setIfInBounds_toArray, List.set_cons_succ, List.set_cons_zero]
  refine wpAnyU_take (i := 2) (v := (.pointer (some ⟨p, 0, none⟩))) rfl (by kernel_rfl) (fun _ _ _ h => h) (leads_of [[11]] (by kernel_rfl)) (by kernel_rfl) (by kernel_rfl) (by kernel_rfl) (Or.inl ⟨by rfl, ?_⟩) hS ?_
  · intro w' hS'
    have s0 := hS'
    go_simp
  change wpAnyU _ _ _ _ _ _ _ _ (Act.put _ (some 65) _) _
  simp only [Act.put, List.setIfInBounds_toArray, List.set_cons_succ, List.set_cons_zero]
  refine wpAnyU_take (i := 3) (v := (.pointer (some ⟨p, 1, none⟩))) rfl (by kernel_rfl) (fun _ _ _ h => h) (leads_of [[11]] (by kernel_rfl)) (by kernel_rfl) (by kernel_rfl) (by kernel_rfl) (Or.inl ⟨by rfl, ?_⟩) hS ?_
  · intro w' hS'
    have s0 := hS'
    go_simp
  change wpAnyU _ _ _ _ _ _ _ _ (Act.put _ (some 66) _) _
  simp only [Act.put, List.setIfInBounds_toArray, List.set_cons_succ, List.set_cons_zero]
  refine wpAnyU_take (i := 4) (v := (vo)) rfl (by kernel_rfl) (fun _ _ _ h => h) (leads_of [[11]] (by kernel_rfl)) (by kernel_rfl) (by kernel_rfl) (by kernel_rfl) (Or.inl ⟨by rfl, ?_⟩) hS ?_
  · intro w' hS'
    have s0 := hS'
    go_simp
  change wpAnyU _ _ _ _ _ _ _ _ (Act.put _ (some 67) _) _
  simp only [Act.put, List.setIfInBounds_toArray, List.set_cons_succ, List.set_cons_zero]
  refine wpAnyU_take (i := 5) (v := (.pointer (some ⟨G.a, 0, none⟩))) rfl (by kernel_rfl) (fun _ _ _ h => h) (leads_of [[11]] (by kernel_rfl)) (by kernel_rfl) (by kernel_rfl) (by kernel_rfl) (Or.inl ⟨by rfl, ?_⟩) hS ?_
  · intro w' hS'
    have s0 := hS'
    go_simp
  change wpAnyU _ _ _ _ _ _ _ _ (Act.put _ (some 68) _) _
  simp only [Act.put, List.setIfInBounds_toArray, List.set_cons_succ, List.set_cons_zero]
  refine wpAnyU_all (rs := [6]) (by kernel_rfl) (by simp) ?_
  intro j hj
  obtain rfl := List.mem_singleton.1 hj
  clear hj
  refine wpOp_shut rfl (fun K' HK => ?_)
  refine step_call rfl (f := 24) rfl Try.func24 (by kernel_rfl) rfl #[.pointer (some ⟨G.a, 0, none⟩), .int .i64 23] (by simp only [List.map_toArray, List.map_cons, List.map_nil]; rfl) ?_
  refine HPUT.out.mono ?_
  rintro e w2 ⟨rfl, F2, okc', cv', h2, k2, s2⟩
  refine ⟨_, rfl, ?_⟩
  have K2 := hid (show Kp (fun k => k = G.a ∨ okc k) w1 w2 from (Kp.of_below (below_drew (Below.refl _ _))).trans k2 (fun _ q => .inl q))
  have HM2 := hid h2
  have S2 := hid (show ∀ k, F2 k → F1 k ∨ w1.heap.size ≤ k from s2)
  have rp2 := K2.out.block p hpl (fun q => q.elim A5.out.1 A5.out.2.1)
  have z1 : w2.cell? ⟨p, 1, none⟩ = some vo := (World.cell?_of_block (w := w1) (a := ⟨p, 1, none⟩) rp2).trans p1
  have RP2 := hid (rp2.trans (show w1.heap[p]? = _ from HD.out.1))
  have RO2 := hid (Kd.R_step A2.out (fun j q q2 => K2.out.block j q2 (fun e => e.elim (A4.out j q).2.1 (A4.out j q).2.2.1)))
  clear h2 k2 s2 rp2 HPUT
  refine HK.out _ _ ⟨.inr ?_, ?_⟩
  · exact z1
  clear HK K'
  have hS := z1
  change wpAnyU _ _ _ _ _ _ _ _ (Act.put _ (some 69) _) _
  simp only [Act.put, List.setIfInBounds_toArray, List.set_cons_succ, List.set_cons_zero]
  refine wpAnyU_all (rs := [7]) (by kernel_rfl) (by simp) ?_
  intro j hj
  obtain rfl := List.mem_singleton.1 hj
  clear hj
  refine wpOp_shut rfl (fun K' HK => ?_)
  go_simp
  have HB7 := hid (below_alloc (Below.refl w2.heap.size w2) (.cells #[.int .i64 jy] 3))
  have y1 := keepc HB7.out z1
  refine HK.out _ _ ⟨.inr ?_, ?_⟩
  · exact y1
  clear HK K'
  have hS := y1
  try simp only [Act.put, List.setIfInBounds_toArray, List.set_cons_succ, List.set_cons_zero]
  refine wpAnyU_all (rs := [8]) (by kernel_rfl) (by simp) ?_
  intro j hj
  obtain rfl := List.mem_singleton.1 hj
  clear hj
  refine wpOp_shut rfl (fun K' HK => ?_)
  refine R_step_any (Kd.int .i64) (w0 := w2) (W := w2) 0 ?h0 (.tmp 67) (.tmp 70) 35 3 (.int .i64 0) 8 ?h1 Try.underlying35 infoInt8 rfl (by decide) (by decide) vo (ints outs) (jy : Int) [.int .i64 jy] (ok2 w2) (fun _ => False) ?c1 ?c2 ?c3 ?c4 ?c5 ?c6 ?c7 ?c8 ?c9 ?c10
  (case h0 => rfl)
  (case h1 => rfl)
  (case c1 => rfl)
  (case c2 => rfl)
  (case c3 => rfl)
  (case c4 => exact fun k hk => hk.elim)
  (case c5 => exact fun k hk => by rw [HOK.out]; exact .inr hk)
  (case c6 => exact Kd.R_mono RO2.out (fun k hk => by rw [HOK.out]; exact .inl hk))
  (case c7 => exact Below.refl 0 w2)
  (case c8 => exact Nat.zero_le _)
  (case c9 => have := A6.out; rw [ints_length]; omega)
  intro v1 w3 hN3 _ hg3 _
  rw [show ints outs ++ [(jy : Int)] = ints (outs ++ [jy]) by simp [ints]] at hN3
  obtain ⟨A1, cap1, rfl⟩ := Kd.R_slice hN3
  have HN3 := hid hN3
  have HG3 := hid hg3
  clear hN3 hg3
  have x1 := keepg HG3.out N2.out z1
  have rp3 := (HG3.out.block p (Array.getElem?_eq_some_iff.1 RP2.out).1 (fun e => N2.out e.symm)).trans RP2.out
  have f1 : w3.frozen? ⟨p, 1, none⟩ = false := by simp [World.frozen?, rp3]
  have RP3 := hid rp3
  clear rp3
  refine HK.out _ _ ⟨.inr ?_, ?_⟩
  · exact x1
  clear HK K'
  have hS := x1
  change wpAnyU _ _ _ _ _ _ _ _ (Act.put _ (some 71) _) _
  simp only [Act.put, List.setIfInBounds_toArray, List.set_cons_succ, List.set_cons_zero]
  refine wpAnyU_take (i := 9) (v := (.pointer (some ⟨p, 0, none⟩))) rfl (by kernel_rfl) (fun _ _ _ h => h) (leads_of [[10, 11]] (by kernel_rfl)) (by kernel_rfl) (by kernel_rfl) (by kernel_rfl) (Or.inl ⟨by rfl, ?_⟩) hS ?_
  · intro w' hS'
    have s0 := hS'
    go_simp
  change wpAnyU _ _ _ _ _ _ _ _ (Act.put _ (some 72) _) _
  simp only [Act.put, List.setIfInBounds_toArray, List.set_cons_succ, List.set_cons_zero]
  refine wpAnyU_take (i := 10) (v := (.pointer (some ⟨p, 1, none⟩))) rfl (by kernel_rfl) (fun _ _ _ h => h) (leads_of [[11]] (by kernel_rfl)) (by kernel_rfl) (by kernel_rfl) (by kernel_rfl) (Or.inl ⟨by rfl, ?_⟩) hS ?_
  · intro w' hS'
    have s0 := hS'
    go_simp
  change wpAnyU _ _ _ _ _ _ _ _ (Act.put _ (some 73) _) _
  simp only [Act.put, List.setIfInBounds_toArray, List.set_cons_succ, List.set_cons_zero]
  refine wpAnyU_all (rs := [11]) (by kernel_rfl) (by simp) ?_
  intro j hj
  obtain rfl := List.mem_singleton.1 hj
  clear hj
  refine wpOp_shut rfl (fun K' HK => ?_)
  go_simp
  refine HK.out _ _ ⟨.inl (by decide), ?_⟩
  clear HK K'
  refine wpAnyU_done (by kernel_rfl) ?_ _
  have hk3 : Kp (fun k => k = p ∨ okO k) w2 (w3.setCell ⟨p, 1, none⟩ (.slice A1 (ints (outs ++ [jy])).length cap1)) := ((Kp.grown (K := fun k => k = p ∨ okO k) HG3.out (fun j e => .inr (RO2.out.1 j e)))).trans (Kp.set (K := fun k => k = p ∨ okO k) (p := ⟨p, 1, none⟩) _ (.inl rfl)) (fun _ q => .inl q)
  obtain ⟨F', hF', sF'⟩ := HD.out.2.2.2.2.2.2 w2 (w3.setCell ⟨p, 1, none⟩ (.slice A1 (ints (outs ++ [jy])).length cap1)) F2 okc' cv' (.slice A1 (ints (outs ++ [jy])).length cap1) (fun k => ok2 w2 k ∧ k < w3.heap.size) HM2.out K2.out S2.out hk3 (blk_put RP3.out 1 _ rfl) (Kd.R_mono (Kd.R_step (Kd.R_bound HN3.out) (fun j q _ => Below.heap_setCell _ _ _ _ (fun e => by
      have e' : j = p := e
      subst e'
      have q1 := q.1
      rw [HOK.out] at q1
      exact q1.elim HD.out.2.2.1 (fun q => by have := (Array.getElem?_eq_some_iff.1 RP2.out).1; omega)))) (fun k q => ⟨q.1, q.2.2.1⟩)) (fun q => by
      have q1 := q.1
      rw [HOK.out] at q1
      exact q1.elim HD.out.2.2.1 (fun q => by have := (Array.getElem?_eq_some_iff.1 RP2.out).1; omega)) (fun k q => ⟨by have q1 := q.1; rw [HOK.out] at q1; exact q1, by simpa using q.2⟩)
  have HFIN := hid (show MN G W F ids (w3.setCell ⟨p, 1, none⟩ (.slice A1 (ints (outs ++ [jy])).length cap1)) { T2 with opn := o } from ⟨F', hF', ((K.out.trans K2.out (fun j q => q.elim (fun e => .inl (.inl e)) (fun q => (SS.out j (HM.out.fc j q).1).imp .inr id))).trans hk3 (fun j q => q.elim (fun e => e ▸ A5.out.2.2.elim (fun q => (SS.out p q).imp .inr id) .inr) (fun q => (SS.out j (A4.out j q).2.2.2).imp .inr id))), fun j q => (sF' j q).elim (fun q => (S2.out j q).elim (SS.out j) (fun q => .inr (Nat.le_trans K.out.size q))) (fun q => .inr (by have := K2.out.size; have := K.out.size; omega))⟩)
  clear hk3 hF' sF' hS x1 f1 z1 p1 y1
  go_wp2_with fail
  go_ret
  exact ⟨rfl, MN.pre HB.out HFIN.out⟩
set_option maxHeartbeats 3200000 in
set_option maxRecDepth 100000 in
theorem stm_next (h : MS G w F ids S) (hn : G.l[k]? = some n) (ih : NodeOk G m) (hkd : Box (n.kind = 29)) (hr : ((awayF S.opn S).bind fun S1 => S1.put (iN 23 (topF S.opn))) = some S') :
    Calls Try.prog 56 #[ptr G.a, .int .i64 k] w fun e w' => e = .returned (.bool true) ∧ MN G w F ids w' S' := by
  obtain ⟨T1, t1, hr⟩ := Option.bind_eq_some_iff.1 hr
  have H1 := hid t1
  have H2 := hid hr
  clear t1 hr
  obtain ⟨A3, c3, A4, c4, hkl, n0, n1, n2, n3, n4, n5, nb, l3, f3, l4, f4⟩ := h.box hn
  have hkl' : (k : Int) < (G.l.length : Int) := by omega
  have g0 := h.c0
  have hal := h.lt.1
  have hgl := cell_lt n0
  dsimp only at hgl
  have hb := (Below.refl w.heap.size w).alloc (Nat.le_refl _) (.cells #[.int .i64 n.kind, .int .i64 n.num, .string n.text, .slice A3 n.names.length c3, .slice A4 n.kids.length c4, .int .i64 n.at_] 37)
  have NB := hid (show NBx G (w.alloc (.cells #[.int .i64 n.kind, .int .i64 n.num, .string n.text, .slice A3 n.names.length c3, .slice A4 n.kids.length c4, .int .i64 n.at_] 37)) w.heap.size n A3 c3 A4 c4 from nb)
  have HS0 := hid (h.below hb)
  have HN0 := hid h.free
  have HX := hid (h.below hb).same
  have HB := hid hb
  have IH := hid @ih
  have FF := hid (And.intro (NB.out.f3) (NB.out.f4))
  have LL := hid (And.intro l3 l4)
  have H0 := hid h
  have HNN := hid hn
  clear hb nb l3 f3 l4 f4 h ih hn
  have t21 : (n.kind == (21 : Int)) = false := by have := hkd.out; rw [beq_eq_false_iff_ne]; omega
  have t22 : (n.kind == (22 : Int)) = false := by have := hkd.out; rw [beq_eq_false_iff_ne]; omega
  have t23 : (n.kind == (23 : Int)) = false := by have := hkd.out; rw [beq_eq_false_iff_ne]; omega
  have t24 : (n.kind == (24 : Int)) = false := by have := hkd.out; rw [beq_eq_false_iff_ne]; omega
  have t25 : (n.kind == (25 : Int)) = false := by have := hkd.out; rw [beq_eq_false_iff_ne]; omega
  have t26 : (n.kind == (26 : Int)) = false := by have := hkd.out; rw [beq_eq_false_iff_ne]; omega
  have t27 : (n.kind == (27 : Int)) = false := by have := hkd.out; rw [beq_eq_false_iff_ne]; omega
  have t28 : (n.kind == (28 : Int)) = false := by have := hkd.out; rw [beq_eq_false_iff_ne]; omega
  have t29 : (n.kind == (29 : Int)) = true := by have := hkd.out; rw [beq_iff_eq]; omega
  unfold ptr
  go_enter Try.func56, Try.ntmps56
  go_upto_region 2 with fail
  clear n0 n1 n2 n3 n4 n5 g0 hal hgl
  generalize w.alloc (.cells #[.int .i64 n.kind, .int .i64 n.num, .string n.text, .slice A3 n.names.length c3, .slice A4 n.kids.length c4, .int .i64 n.at_] 37) = W at *
  have m0 := NB.out.m0
  have hc := mout_c HS0.out H1.out
  unfold ptr at hc
  have HC := hid hc
  clear hc HX
  go_wp2_with fail
  refine HC.out.mono ?_
  rintro e w1 ⟨p, F1, rfl, ⟨okc, cv, oko, ov, f, h1⟩, k1, s1, hp⟩
  clear HC m0
  have ho := awayOpn H1.out
  have p0 := outTop h1 (by rw [ho]; exact hp)
  rw [ho] at p0
  have hc := mnum_c (⟨okc, cv, oko, ov, f, h1⟩ : MS G w1 F1 ids T1) H2.out
  unfold ptr at hc
  have HC := hid hc
  have K := hid k1
  have SS := hid s1
  clear hc h1 k1 s1 hp ho
  go_wp2_with fail
  refine HC.out.mono ?_
  rintro e w2 ⟨rfl, hN⟩
  have HX := hid (MN.of K.out SS.out hN)
  clear hN HC K SS
  go_wp2_with fail
  go_ret
  exact ⟨rfl, MN.pre HB.out HX.out⟩
set_option maxHeartbeats 3200000 in
set_option maxRecDepth 100000 in
theorem stm_ret0 (h : MS G w F ids S) (hn : G.l[k]? = some n) (ih : NodeOk G m) (hkd : Box (n.kind = 30)) (hkz : Box (n.kids.length = 0)) (hr : ((S.put (iN 1 0)).bind fun S0 => (allM (nodeM G.l G.spots G.slots G.funs m) n.kids S0).bind fun S2 => S2.put (iN 31 0)) = some S') :
    Calls Try.prog 56 #[ptr G.a, .int .i64 k] w fun e w' => e = .returned (.bool true) ∧ MN G w F ids w' S' := by
  obtain ⟨T0, t0, hr⟩ := Option.bind_eq_some_iff.1 hr
  have HP := hid t0
  obtain ⟨T1, t1, hr⟩ := Option.bind_eq_some_iff.1 hr
  have H1 := hid t1
  have H2 := hid hr
  clear t0 t1 hr
  obtain ⟨A3, c3, A4, c4, hkl, n0, n1, n2, n3, n4, n5, nb, l3, f3, l4, f4⟩ := h.box hn
  have hkl' : (k : Int) < (G.l.length : Int) := by omega
  have g0 := h.c0
  have hal := h.lt.1
  have hgl := cell_lt n0
  dsimp only at hgl
  have hb := (Below.refl w.heap.size w).alloc (Nat.le_refl _) (.cells #[.int .i64 n.kind, .int .i64 n.num, .string n.text, .slice A3 n.names.length c3, .slice A4 n.kids.length c4, .int .i64 n.at_] 37)
  have NB := hid (show NBx G (w.alloc (.cells #[.int .i64 n.kind, .int .i64 n.num, .string n.text, .slice A3 n.names.length c3, .slice A4 n.kids.length c4, .int .i64 n.at_] 37)) w.heap.size n A3 c3 A4 c4 from nb)
  have HS0 := hid (h.below hb)
  have HN0 := hid h.free
  have HX := hid (h.below hb).same
  have HB := hid hb
  have IH := hid @ih
  have FF := hid (And.intro (NB.out.f3) (NB.out.f4))
  have LL := hid (And.intro l3 l4)
  have H0 := hid h
  have HNN := hid hn
  clear hb nb l3 f3 l4 f4 h ih hn
  have t21 : (n.kind == (21 : Int)) = false := by have := hkd.out; rw [beq_eq_false_iff_ne]; omega
  have t22 : (n.kind == (22 : Int)) = false := by have := hkd.out; rw [beq_eq_false_iff_ne]; omega
  have t23 : (n.kind == (23 : Int)) = false := by have := hkd.out; rw [beq_eq_false_iff_ne]; omega
  have t24 : (n.kind == (24 : Int)) = false := by have := hkd.out; rw [beq_eq_false_iff_ne]; omega
  have t25 : (n.kind == (25 : Int)) = false := by have := hkd.out; rw [beq_eq_false_iff_ne]; omega
  have t26 : (n.kind == (26 : Int)) = false := by have := hkd.out; rw [beq_eq_false_iff_ne]; omega
  have t27 : (n.kind == (27 : Int)) = false := by have := hkd.out; rw [beq_eq_false_iff_ne]; omega
  have t28 : (n.kind == (28 : Int)) = false := by have := hkd.out; rw [beq_eq_false_iff_ne]; omega
  have t29 : (n.kind == (29 : Int)) = false := by have := hkd.out; rw [beq_eq_false_iff_ne]; omega
  have t30 : (n.kind == (30 : Int)) = true := by have := hkd.out; rw [beq_iff_eq]; omega
  have hkz' : ((n.kids.length : Int) == 0) = true := by rw [beq_iff_eq]; have := hkz.out; omega
  unfold ptr
  go_enter Try.func56, Try.ntmps56
  go_upto_region 2 with fail
  clear n0 n1 n2 n3 n4 n5 g0 hal hgl
  generalize w.alloc (.cells #[.int .i64 n.kind, .int .i64 n.num, .string n.text, .slice A3 n.names.length c3, .slice A4 n.kids.length c4, .int .i64 n.at_] 37) = W at *
  obtain ⟨F1, h1, k1, s1⟩ := id HX.out
  have b1 := NB.out.at HS0.out HN0.out k1
  have m0 := b1.m0
  have m4 := b1.m4
  have hc := mput_c h1 HP.out
  unfold ptr at hc
  have HC := hid hc
  have K := hid k1
  have SS := hid s1
  clear hc h1 k1 s1 b1 HX
  go_wp2_with fail
  refine HC.out.mono ?_
  rintro e w1 ⟨rfl, hN⟩
  have HX := hid (MN.of K.out SS.out hN)
  clear hN HC K SS
  clear m0 m4
  obtain ⟨F2, h2, k2, s2⟩ := id HX.out
  have b2 := NB.out.at HS0.out HN0.out k2
  have m0 := b2.m0
  have m4 := b2.m4
  have hc := mall_c (c := c4) IH.out h2 H1.out b2.f4
  unfold ptr at hc
  have HC := hid hc
  have K := hid k2
  have SS := hid s2
  clear hc h2 k2 s2 b2 HX
  go_wp2_with fail
  refine HC.out.mono ?_
  rintro e w2 ⟨rfl, hN⟩
  have HX := hid (MN.of K.out SS.out hN)
  clear hN HC K SS
  clear m0 m4
  obtain ⟨F3, h3, k3, s3⟩ := id HX.out
  have b3 := NB.out.at HS0.out HN0.out k3
  have hc := mput_c h3 H2.out
  unfold ptr at hc
  have HC := hid hc
  have K := hid k3
  have SS := hid s3
  clear hc h3 k3 s3 b3 HX
  go_wp2_with fail
  refine HC.out.mono ?_
  rintro e w3 ⟨rfl, hN⟩
  have HX := hid (MN.of K.out SS.out hN)
  clear hN HC K SS
  go_wp2_with fail
  go_ret
  exact ⟨rfl, MN.pre HB.out HX.out⟩
set_option maxHeartbeats 3200000 in
set_option maxRecDepth 100000 in
theorem stm_ret1 (h : MS G w F ids S) (hn : G.l[k]? = some n) (ih : NodeOk G m) (hkd : Box (n.kind = 30)) (hkz : Box (n.kids.length ≠ 0)) (hr : ((allM (nodeM G.l G.spots G.slots G.funs m) n.kids S).bind fun S2 => S2.put (iN 31 0)) = some S') :
    Calls Try.prog 56 #[ptr G.a, .int .i64 k] w fun e w' => e = .returned (.bool true) ∧ MN G w F ids w' S' := by
  obtain ⟨T1, t1, hr⟩ := Option.bind_eq_some_iff.1 hr
  have H1 := hid t1
  have H2 := hid hr
  clear t1 hr
  obtain ⟨A3, c3, A4, c4, hkl, n0, n1, n2, n3, n4, n5, nb, l3, f3, l4, f4⟩ := h.box hn
  have hkl' : (k : Int) < (G.l.length : Int) := by omega
  have g0 := h.c0
  have hal := h.lt.1
  have hgl := cell_lt n0
  dsimp only at hgl
  have hb := (Below.refl w.heap.size w).alloc (Nat.le_refl _) (.cells #[.int .i64 n.kind, .int .i64 n.num, .string n.text, .slice A3 n.names.length c3, .slice A4 n.kids.length c4, .int .i64 n.at_] 37)
  have NB := hid (show NBx G (w.alloc (.cells #[.int .i64 n.kind, .int .i64 n.num, .string n.text, .slice A3 n.names.length c3, .slice A4 n.kids.length c4, .int .i64 n.at_] 37)) w.heap.size n A3 c3 A4 c4 from nb)
  have HS0 := hid (h.below hb)
  have HN0 := hid h.free
  have HX := hid (h.below hb).same
  have HB := hid hb
  have IH := hid @ih
  have FF := hid (And.intro (NB.out.f3) (NB.out.f4))
  have LL := hid (And.intro l3 l4)
  have H0 := hid h
  have HNN := hid hn
  clear hb nb l3 f3 l4 f4 h ih hn
  have t21 : (n.kind == (21 : Int)) = false := by have := hkd.out; rw [beq_eq_false_iff_ne]; omega
  have t22 : (n.kind == (22 : Int)) = false := by have := hkd.out; rw [beq_eq_false_iff_ne]; omega
  have t23 : (n.kind == (23 : Int)) = false := by have := hkd.out; rw [beq_eq_false_iff_ne]; omega
  have t24 : (n.kind == (24 : Int)) = false := by have := hkd.out; rw [beq_eq_false_iff_ne]; omega
  have t25 : (n.kind == (25 : Int)) = false := by have := hkd.out; rw [beq_eq_false_iff_ne]; omega
  have t26 : (n.kind == (26 : Int)) = false := by have := hkd.out; rw [beq_eq_false_iff_ne]; omega
  have t27 : (n.kind == (27 : Int)) = false := by have := hkd.out; rw [beq_eq_false_iff_ne]; omega
  have t28 : (n.kind == (28 : Int)) = false := by have := hkd.out; rw [beq_eq_false_iff_ne]; omega
  have t29 : (n.kind == (29 : Int)) = false := by have := hkd.out; rw [beq_eq_false_iff_ne]; omega
  have t30 : (n.kind == (30 : Int)) = true := by have := hkd.out; rw [beq_iff_eq]; omega
  have hkz' : ((n.kids.length : Int) == 0) = false := by rw [beq_eq_false_iff_ne]; have := hkz.out; omega
  unfold ptr
  go_enter Try.func56, Try.ntmps56
  go_upto_region 2 with fail
  clear n0 n1 n2 n3 n4 n5 g0 hal hgl
  generalize w.alloc (.cells #[.int .i64 n.kind, .int .i64 n.num, .string n.text, .slice A3 n.names.length c3, .slice A4 n.kids.length c4, .int .i64 n.at_] 37) = W at *
  obtain ⟨F1, h1, k1, s1⟩ := id HX.out
  have b1 := NB.out.at HS0.out HN0.out k1
  have m0 := b1.m0
  have m4 := b1.m4
  have hc := mall_c (c := c4) IH.out h1 H1.out b1.f4
  unfold ptr at hc
  have HC := hid hc
  have K := hid k1
  have SS := hid s1
  clear hc h1 k1 s1 b1 HX
  go_wp2_with fail
  refine HC.out.mono ?_
  rintro e w1 ⟨rfl, hN⟩
  have HX := hid (MN.of K.out SS.out hN)
  clear hN HC K SS
  clear m0 m4
  obtain ⟨F2, h2, k2, s2⟩ := id HX.out
  have b2 := NB.out.at HS0.out HN0.out k2
  have hc := mput_c h2 H2.out
  unfold ptr at hc
  have HC := hid hc
  have K := hid k2
  have SS := hid s2
  clear hc h2 k2 s2 b2 HX
  go_wp2_with fail
  refine HC.out.mono ?_
  rintro e w2 ⟨rfl, hN⟩
  have HX := hid (MN.of K.out SS.out hN)
  clear hN HC K SS
  go_wp2_with fail
  go_ret
  exact ⟨rfl, MN.pre HB.out HX.out⟩
set_option maxHeartbeats 3200000 in
set_option maxRecDepth 100000 in
theorem stm_throw (h : MS G w F ids S) (hn : G.l[k]? = some n) (ih : NodeOk G m) (hkd : Box (n.kind = 31)) (hr : ((allM (nodeM G.l G.spots G.slots G.funs m) n.kids S).bind fun S1 => S1.put (iN 32 0)) = some S') :
    Calls Try.prog 56 #[ptr G.a, .int .i64 k] w fun e w' => e = .returned (.bool true) ∧ MN G w F ids w' S' := by
  obtain ⟨T1, t1, hr⟩ := Option.bind_eq_some_iff.1 hr
  have H1 := hid t1
  have H2 := hid hr
  clear t1 hr
  obtain ⟨A3, c3, A4, c4, hkl, n0, n1, n2, n3, n4, n5, nb, l3, f3, l4, f4⟩ := h.box hn
  have hkl' : (k : Int) < (G.l.length : Int) := by omega
  have g0 := h.c0
  have hal := h.lt.1
  have hgl := cell_lt n0
  dsimp only at hgl
  have hb := (Below.refl w.heap.size w).alloc (Nat.le_refl _) (.cells #[.int .i64 n.kind, .int .i64 n.num, .string n.text, .slice A3 n.names.length c3, .slice A4 n.kids.length c4, .int .i64 n.at_] 37)
  have NB := hid (show NBx G (w.alloc (.cells #[.int .i64 n.kind, .int .i64 n.num, .string n.text, .slice A3 n.names.length c3, .slice A4 n.kids.length c4, .int .i64 n.at_] 37)) w.heap.size n A3 c3 A4 c4 from nb)
  have HS0 := hid (h.below hb)
  have HN0 := hid h.free
  have HX := hid (h.below hb).same
  have HB := hid hb
  have IH := hid @ih
  have FF := hid (And.intro (NB.out.f3) (NB.out.f4))
  have LL := hid (And.intro l3 l4)
  have H0 := hid h
  have HNN := hid hn
  clear hb nb l3 f3 l4 f4 h ih hn
  have t21 : (n.kind == (21 : Int)) = false := by have := hkd.out; rw [beq_eq_false_iff_ne]; omega
  have t22 : (n.kind == (22 : Int)) = false := by have := hkd.out; rw [beq_eq_false_iff_ne]; omega
  have t23 : (n.kind == (23 : Int)) = false := by have := hkd.out; rw [beq_eq_false_iff_ne]; omega
  have t24 : (n.kind == (24 : Int)) = false := by have := hkd.out; rw [beq_eq_false_iff_ne]; omega
  have t25 : (n.kind == (25 : Int)) = false := by have := hkd.out; rw [beq_eq_false_iff_ne]; omega
  have t26 : (n.kind == (26 : Int)) = false := by have := hkd.out; rw [beq_eq_false_iff_ne]; omega
  have t27 : (n.kind == (27 : Int)) = false := by have := hkd.out; rw [beq_eq_false_iff_ne]; omega
  have t28 : (n.kind == (28 : Int)) = false := by have := hkd.out; rw [beq_eq_false_iff_ne]; omega
  have t29 : (n.kind == (29 : Int)) = false := by have := hkd.out; rw [beq_eq_false_iff_ne]; omega
  have t30 : (n.kind == (30 : Int)) = false := by have := hkd.out; rw [beq_eq_false_iff_ne]; omega
  have t31 : (n.kind == (31 : Int)) = true := by have := hkd.out; rw [beq_iff_eq]; omega
  unfold ptr
  go_enter Try.func56, Try.ntmps56
  go_upto_region 2 with fail
  clear n0 n1 n2 n3 n4 n5 g0 hal hgl
  generalize w.alloc (.cells #[.int .i64 n.kind, .int .i64 n.num, .string n.text, .slice A3 n.names.length c3, .slice A4 n.kids.length c4, .int .i64 n.at_] 37) = W at *
  obtain ⟨F1, h1, k1, s1⟩ := id HX.out
  have b1 := NB.out.at HS0.out HN0.out k1
  have m0 := b1.m0
  have m4 := b1.m4
  have hc := mall_c (c := c4) IH.out h1 H1.out b1.f4
  unfold ptr at hc
  have HC := hid hc
  have K := hid k1
  have SS := hid s1
  clear hc h1 k1 s1 b1 HX
  go_wp2_with fail
  refine HC.out.mono ?_
  rintro e w1 ⟨rfl, hN⟩
  have HX := hid (MN.of K.out SS.out hN)
  clear hN HC K SS
  clear m0 m4
  obtain ⟨F2, h2, k2, s2⟩ := id HX.out
  have b2 := NB.out.at HS0.out HN0.out k2
  have hc := mput_c h2 H2.out
  unfold ptr at hc
  have HC := hid hc
  have K := hid k2
  have SS := hid s2
  clear hc h2 k2 s2 b2 HX
  go_wp2_with fail
  refine HC.out.mono ?_
  rintro e w2 ⟨rfl, hN⟩
  have HX := hid (MN.of K.out SS.out hN)
  clear hN HC K SS
  go_wp2_with fail
  go_ret
  exact ⟨rfl, MN.pre HB.out HX.out⟩
set_option maxHeartbeats 3200000 in
set_option maxRecDepth 100000 in
theorem stm_try (h : MS G w F ids S) (hn : G.l[k]? = some n) (ih : NodeOk G m) (hkd : Box (n.kind = 32)) (hr : tryM G.l G.spots G.slots G.funs (nodeM G.l G.spots G.slots G.funs m) n S = some S') :
    Calls Try.prog 56 #[ptr G.a, .int .i64 k] w fun e w' => e = .returned (.bool true) ∧ MN G w F ids w' S' := by
  have H1 := hid hr
  clear hr
  obtain ⟨A3, c3, A4, c4, hkl, n0, n1, n2, n3, n4, n5, nb, l3, f3, l4, f4⟩ := h.box hn
  have hkl' : (k : Int) < (G.l.length : Int) := by omega
  have g0 := h.c0
  have hal := h.lt.1
  have hgl := cell_lt n0
  dsimp only at hgl
  have hb := (Below.refl w.heap.size w).alloc (Nat.le_refl _) (.cells #[.int .i64 n.kind, .int .i64 n.num, .string n.text, .slice A3 n.names.length c3, .slice A4 n.kids.length c4, .int .i64 n.at_] 37)
  have NB := hid (show NBx G (w.alloc (.cells #[.int .i64 n.kind, .int .i64 n.num, .string n.text, .slice A3 n.names.length c3, .slice A4 n.kids.length c4, .int .i64 n.at_] 37)) w.heap.size n A3 c3 A4 c4 from nb)
  have HS0 := hid (h.below hb)
  have HN0 := hid h.free
  have HX := hid (h.below hb).same
  have HB := hid hb
  have IH := hid @ih
  have FF := hid (And.intro (NB.out.f3) (NB.out.f4))
  have LL := hid (And.intro l3 l4)
  have H0 := hid h
  have HNN := hid hn
  clear hb nb l3 f3 l4 f4 h ih hn
  have t21 : (n.kind == (21 : Int)) = false := by have := hkd.out; rw [beq_eq_false_iff_ne]; omega
  have t22 : (n.kind == (22 : Int)) = false := by have := hkd.out; rw [beq_eq_false_iff_ne]; omega
  have t23 : (n.kind == (23 : Int)) = false := by have := hkd.out; rw [beq_eq_false_iff_ne]; omega
  have t24 : (n.kind == (24 : Int)) = false := by have := hkd.out; rw [beq_eq_false_iff_ne]; omega
  have t25 : (n.kind == (25 : Int)) = false := by have := hkd.out; rw [beq_eq_false_iff_ne]; omega
  have t26 : (n.kind == (26 : Int)) = false := by have := hkd.out; rw [beq_eq_false_iff_ne]; omega
  have t27 : (n.kind == (27 : Int)) = false := by have := hkd.out; rw [beq_eq_false_iff_ne]; omega
  have t28 : (n.kind == (28 : Int)) = false := by have := hkd.out; rw [beq_eq_false_iff_ne]; omega
  have t29 : (n.kind == (29 : Int)) = false := by have := hkd.out; rw [beq_eq_false_iff_ne]; omega
  have t30 : (n.kind == (30 : Int)) = false := by have := hkd.out; rw [beq_eq_false_iff_ne]; omega
  have t31 : (n.kind == (31 : Int)) = false := by have := hkd.out; rw [beq_eq_false_iff_ne]; omega
  have t32 : (n.kind == (32 : Int)) = true := by have := hkd.out; rw [beq_iff_eq]; omega
  unfold ptr
  go_enter Try.func56, Try.ntmps56
  go_upto_region 2 with fail
  clear n0 n1 n2 n3 n4 n5 g0 hal hgl
  generalize w.alloc (.cells #[.int .i64 n.kind, .int .i64 n.num, .string n.text, .slice A3 n.names.length c3, .slice A4 n.kids.length c4, .int .i64 n.at_] 37) = W at *
  obtain ⟨F1, h1, k1, s1⟩ := id HX.out
  have b1 := NB.out.at HS0.out HN0.out k1
  have m0 := b1.m0
  have m1 := b1.m1
  have m2 := b1.m2
  have m3 := b1.m3
  have m4 := b1.m4
  have m5 := b1.m5
  have hc := mtry_c h1 b1.l3 b1.f3 b1.l4 b1.f4 @IH.out H1.out
  unfold ptr at hc
  have HC := hid hc
  have K := hid k1
  have SS := hid s1
  clear hc h1 k1 s1 b1 HX
  go_wp2_with fail
  refine HC.out.mono ?_
  rintro e w1 ⟨rfl, hN⟩
  have HX := hid (MN.of K.out SS.out hN)
  clear hN HC K SS
  clear m0 m1 m2 m3 m4 m5
  go_wp2_with fail
  go_ret
  exact ⟨rfl, MN.pre HB.out HX.out⟩
set_option maxHeartbeats 3200000 in
set_option maxRecDepth 100000 in
theorem stm_none (h : MS G w F ids S) (hn : G.l[k]? = some n) (hkd : Box (n.kind < 21 ∨ 32 < n.kind)) :
    Calls Try.prog 56 #[ptr G.a, .int .i64 k] w fun e w' => e = .returned (.bool false) ∧ MN G w F ids w' S := by
  obtain ⟨A3, c3, A4, c4, hkl, n0, n1, n2, n3, n4, n5, nb, l3, f3, l4, f4⟩ := h.box hn
  have hkl' : (k : Int) < (G.l.length : Int) := by omega
  have g0 := h.c0
  have hal := h.lt.1
  have hgl := cell_lt n0
  dsimp only at hgl
  have hb := (Below.refl w.heap.size w).alloc (Nat.le_refl _) (.cells #[.int .i64 n.kind, .int .i64 n.num, .string n.text, .slice A3 n.names.length c3, .slice A4 n.kids.length c4, .int .i64 n.at_] 37)
  have NB := hid (show NBx G (w.alloc (.cells #[.int .i64 n.kind, .int .i64 n.num, .string n.text, .slice A3 n.names.length c3, .slice A4 n.kids.length c4, .int .i64 n.at_] 37)) w.heap.size n A3 c3 A4 c4 from nb)
  have HB := hid hb
  have HX := hid (h.below hb).same
  clear hb nb l3 f3 l4 f4 h hn
  have t21 : (n.kind == (21 : Int)) = false := by have := hkd.out; rw [beq_eq_false_iff_ne]; omega
  have t22 : (n.kind == (22 : Int)) = false := by have := hkd.out; rw [beq_eq_false_iff_ne]; omega
  have t23 : (n.kind == (23 : Int)) = false := by have := hkd.out; rw [beq_eq_false_iff_ne]; omega
  have t24 : (n.kind == (24 : Int)) = false := by have := hkd.out; rw [beq_eq_false_iff_ne]; omega
  have t25 : (n.kind == (25 : Int)) = false := by have := hkd.out; rw [beq_eq_false_iff_ne]; omega
  have t26 : (n.kind == (26 : Int)) = false := by have := hkd.out; rw [beq_eq_false_iff_ne]; omega
  have t27 : (n.kind == (27 : Int)) = false := by have := hkd.out; rw [beq_eq_false_iff_ne]; omega
  have t28 : (n.kind == (28 : Int)) = false := by have := hkd.out; rw [beq_eq_false_iff_ne]; omega
  have t29 : (n.kind == (29 : Int)) = false := by have := hkd.out; rw [beq_eq_false_iff_ne]; omega
  have t30 : (n.kind == (30 : Int)) = false := by have := hkd.out; rw [beq_eq_false_iff_ne]; omega
  have t31 : (n.kind == (31 : Int)) = false := by have := hkd.out; rw [beq_eq_false_iff_ne]; omega
  have t32 : (n.kind == (32 : Int)) = false := by have := hkd.out; rw [beq_eq_false_iff_ne]; omega
  unfold ptr
  go_enter Try.func56, Try.ntmps56
  go_upto_region 2 with fail
  clear n0 n1 n2 n3 n4 n5 g0 hal hgl
  generalize w.alloc (.cells #[.int .i64 n.kind, .int .i64 n.num, .string n.text, .slice A3 n.names.length c3, .slice A4 n.kids.length c4, .int .i64 n.at_] 37) = W at *
  have m0 := NB.out.m0
  go_wp2_with fail
  go_ret
  exact ⟨rfl, MN.pre HB.out HX.out⟩
end
end Go.Proofs.Ytibepkblgliooaa.Q
