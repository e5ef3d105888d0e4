/- What a proof further on needs (part s). -/
import Derived.Deep.Cut
import Derived.Deep.CutRange
import Derived.Deep.DeepCutAuto
import Derived.RegionTactic
import Derived.Test.YtibepkblgliooaaKr
set_option linter.unusedVariables false
namespace Go.Proofs.Ytibepkblgliooaa.Q
open Go.RowKit
open Go.Proofs.YtibepkblgliooaaW.PrintWords
section
variable {G : MG} {w w' : World} {F : Nat → Prop} {ids : List (Option Nat)} {S S' : Mk} {n : Nd} {A3 A4 : Option Addr} {c3 c4 m k : Nat}
set_option maxHeartbeats 3200000 in
set_option maxRecDepth 100000 in
theorem literal_c (h : MS G w F ids S) (l3 : n.names.length ≤ c3) (f3 : Kd.F Kd.string w G.okl A3 n.names.length n.names) (l4 : n.kids.length ≤ c4) (f4 : Kd.F (Kd.int .i64) w G.okl A4 n.kids.length (ints n.kids)) {o : Option Mk} (hr : litM n S = some o) :
    Calls Try.prog 55 #[ptr G.a, (.agg #[.int .i64 n.kind, .int .i64 n.num, .string n.text, .slice A3 n.names.length c3, .slice A4 n.kids.length c4, .int .i64 n.at_])] w fun e w' => e = .returned (.bool o.isSome) ∧ MN G w F ids w' (o.getD S) := by
  unfold litM at hr
  have hb := (Below.refl w.heap.size w).alloc (Nat.le_refl _) (.cells #[.int .i64 n.kind, .int .i64 n.num, .string n.text, .slice A3 n.names.length c3, .slice A4 n.kids.length c4, .int .i64 n.at_] 37)
  have NB := hid (show NBx G (w.alloc (.cells #[.int .i64 n.kind, .int .i64 n.num, .string n.text, .slice A3 n.names.length c3, .slice A4 n.kids.length c4, .int .i64 n.at_] 37)) w.heap.size n A3 c3 A4 c4 from NBx.new l3 f3 l4 f4)
  have HS0 := hid (h.below hb)
  have HN0 := hid h.free
  have HX := hid (h.below hb).same
  have HB := hid hb
  clear hb l3 f3 l4 f4 h
  unfold ptr
  split at hr
  · rename_i g1
    have t1 : (n.kind == (1 : Int)) = true := by simp [g1]
    obtain ⟨T, ht, rfl⟩ := Option.map_eq_some_iff.1 hr
    clear hr g1
    go_enter Try.func55, Try.ntmps55
    go_upto_region 1 with fail
    generalize w.alloc (.cells #[.int .i64 n.kind, .int .i64 n.num, .string n.text, .slice A3 n.names.length c3, .slice A4 n.kids.length c4, .int .i64 n.at_] 37) = W at *
    obtain ⟨F1, h1, k1, s1⟩ := id HX.out
    have b1 := NB.out.at HS0.out HN0.out k1
    have m0 := b1.m0
    have m1 := b1.m1
    have m2 := b1.m2
    have hc := mnum_c h1 ht
    unfold ptr at hc
    have HC := hid hc
    have K := hid k1
    have SS := hid s1
    clear hc h1 k1 s1 b1 HX
    go_wp2_with fail
    refine HC.out.mono ?_
    rintro e w1 ⟨rfl, hN⟩
    have HX := hid (MN.of K.out SS.out hN)
    clear hN HC K SS
    go_wp2_with fail
    go_ret
    exact ⟨rfl, MN.pre HB.out HX.out⟩
  · rename_i g1
    split at hr
    · rename_i g2
      have t1 : (n.kind == (1 : Int)) = false := by simp [g1]
      have t2 : (n.kind == (2 : Int)) = true := by simp [g2]
      obtain ⟨T, ht, rfl⟩ := Option.map_eq_some_iff.1 hr
      clear hr g1 g2
      go_enter Try.func55, Try.ntmps55
      go_upto_region 1 with fail
      generalize w.alloc (.cells #[.int .i64 n.kind, .int .i64 n.num, .string n.text, .slice A3 n.names.length c3, .slice A4 n.kids.length c4, .int .i64 n.at_] 37) = W at *
      obtain ⟨F1, h1, k1, s1⟩ := id HX.out
      have b1 := NB.out.at HS0.out HN0.out k1
      have m0 := b1.m0
      have m1 := b1.m1
      have m2 := b1.m2
      have hc := mtext_c h1 ht
      unfold ptr at hc
      have HC := hid hc
      have K := hid k1
      have SS := hid s1
      clear hc h1 k1 s1 b1 HX
      go_wp2_with fail
      refine HC.out.mono ?_
      rintro e w1 ⟨rfl, hN⟩
      have HX := hid (MN.of K.out SS.out hN)
      clear hN HC K SS
      go_wp2_with fail
      go_ret
      exact ⟨rfl, MN.pre HB.out HX.out⟩
    · rename_i g2
      split at hr
      · rename_i g4
        have t1 : (n.kind == (1 : Int)) = false := by simp [g1]
        have t2 : (n.kind == (2 : Int)) = false := by simp [g2]
        have t4 : (n.kind == (4 : Int)) = true := by simp [g4]
        obtain ⟨T, ht, rfl⟩ := Option.map_eq_some_iff.1 hr
        clear hr g1 g2 g4
        go_enter Try.func55, Try.ntmps55
        go_upto_region 1 with fail
        generalize w.alloc (.cells #[.int .i64 n.kind, .int .i64 n.num, .string n.text, .slice A3 n.names.length c3, .slice A4 n.kids.length c4, .int .i64 n.at_] 37) = W at *
        obtain ⟨F1, h1, k1, s1⟩ := id HX.out
        have b1 := NB.out.at HS0.out HN0.out k1
        have m0 := b1.m0
        have m1 := b1.m1
        have m2 := b1.m2
        have hc := mnum_c h1 ht
        unfold ptr at hc
        have HC := hid hc
        have K := hid k1
        have SS := hid s1
        clear hc h1 k1 s1 b1 HX
        go_wp2_with fail
        refine HC.out.mono ?_
        rintro e w1 ⟨rfl, hN⟩
        have HX := hid (MN.of K.out SS.out hN)
        clear hN HC K SS
        go_wp2_with fail
        go_ret
        exact ⟨rfl, MN.pre HB.out HX.out⟩
      · rename_i g4
        split at hr
        · rename_i g5
          have t1 : (n.kind == (1 : Int)) = false := by simp [g1]
          have t2 : (n.kind == (2 : Int)) = false := by simp [g2]
          have t4 : (n.kind == (4 : Int)) = false := by simp [g4]
          have t5 : (n.kind == (5 : Int)) = true := by simp [g5]
          obtain ⟨T, ht, rfl⟩ := Option.map_eq_some_iff.1 hr
          clear hr g1 g2 g4 g5
          go_enter Try.func55, Try.ntmps55
          go_upto_region 1 with fail
          generalize w.alloc (.cells #[.int .i64 n.kind, .int .i64 n.num, .string n.text, .slice A3 n.names.length c3, .slice A4 n.kids.length c4, .int .i64 n.at_] 37) = W at *
          obtain ⟨F1, h1, k1, s1⟩ := id HX.out
          have b1 := NB.out.at HS0.out HN0.out k1
          have m0 := b1.m0
          have m1 := b1.m1
          have m2 := b1.m2
          have hc := mput_c h1 ht
          unfold ptr at hc
          have HC := hid hc
          have K := hid k1
          have SS := hid s1
          clear hc h1 k1 s1 b1 HX
          go_wp2_with fail
          refine HC.out.mono ?_
          rintro e w1 ⟨rfl, hN⟩
          have HX := hid (MN.of K.out SS.out hN)
          clear hN HC K SS
          go_wp2_with fail
          go_ret
          exact ⟨rfl, MN.pre HB.out HX.out⟩
        · rename_i g5
          split at hr
          · rename_i g6
            have t1 : (n.kind == (1 : Int)) = false := by simp [g1]
            have t2 : (n.kind == (2 : Int)) = false := by simp [g2]
            have t4 : (n.kind == (4 : Int)) = false := by simp [g4]
            have t5 : (n.kind == (5 : Int)) = false := by simp [g5]
            have t6 : (n.kind == (6 : Int)) = true := by simp [g6]
            obtain ⟨T, ht, rfl⟩ := Option.map_eq_some_iff.1 hr
            clear hr g1 g2 g4 g5 g6
            go_enter Try.func55, Try.ntmps55
            go_upto_region 1 with fail
            generalize w.alloc (.cells #[.int .i64 n.kind, .int .i64 n.num, .string n.text, .slice A3 n.names.length c3, .slice A4 n.kids.length c4, .int .i64 n.at_] 37) = W at *
            obtain ⟨F1, h1, k1, s1⟩ := id HX.out
            have b1 := NB.out.at HS0.out HN0.out k1
            have m0 := b1.m0
            have m1 := b1.m1
            have m2 := b1.m2
            have hc := mput_c h1 ht
            unfold ptr at hc
            have HC := hid hc
            have K := hid k1
            have SS := hid s1
            clear hc h1 k1 s1 b1 HX
            go_wp2_with fail
            refine HC.out.mono ?_
            rintro e w1 ⟨rfl, hN⟩
            have HX := hid (MN.of K.out SS.out hN)
            clear hN HC K SS
            go_wp2_with fail
            go_ret
            exact ⟨rfl, MN.pre HB.out HX.out⟩
          · rename_i g6
            split at hr
            · rename_i g7
              have t1 : (n.kind == (1 : Int)) = false := by simp [g1]
              have t2 : (n.kind == (2 : Int)) = false := by simp [g2]
              have t4 : (n.kind == (4 : Int)) = false := by simp [g4]
              have t5 : (n.kind == (5 : Int)) = false := by simp [g5]
              have t6 : (n.kind == (6 : Int)) = false := by simp [g6]
              have t7 : (n.kind == (7 : Int)) = true := by simp [g7]
              obtain ⟨T, ht, rfl⟩ := Option.map_eq_some_iff.1 hr
              clear hr g1 g2 g4 g5 g6 g7
              go_enter Try.func55, Try.ntmps55
              go_upto_region 1 with fail
              generalize w.alloc (.cells #[.int .i64 n.kind, .int .i64 n.num, .string n.text, .slice A3 n.names.length c3, .slice A4 n.kids.length c4, .int .i64 n.at_] 37) = W at *
              obtain ⟨F1, h1, k1, s1⟩ := id HX.out
              have b1 := NB.out.at HS0.out HN0.out k1
              have m0 := b1.m0
              have m1 := b1.m1
              have m2 := b1.m2
              have hc := mput_c h1 ht
              unfold ptr at hc
              have HC := hid hc
              have K := hid k1
              have SS := hid s1
              clear hc h1 k1 s1 b1 HX
              go_wp2_with fail
              refine HC.out.mono ?_
              rintro e w1 ⟨rfl, hN⟩
              have HX := hid (MN.of K.out SS.out hN)
              clear hN HC K SS
              go_wp2_with fail
              go_ret
              exact ⟨rfl, MN.pre HB.out HX.out⟩
            · rename_i g7
              have t1 : (n.kind == (1 : Int)) = false := by simp [g1]
              have t2 : (n.kind == (2 : Int)) = false := by simp [g2]
              have t4 : (n.kind == (4 : Int)) = false := by simp [g4]
              have t5 : (n.kind == (5 : Int)) = false := by simp [g5]
              have t6 : (n.kind == (6 : Int)) = false := by simp [g6]
              have t7 : (n.kind == (7 : Int)) = false := by simp [g7]
              obtain rfl := Option.some.inj hr
              clear hr g1 g2 g4 g5 g6 g7
              go_enter Try.func55, Try.ntmps55
              go_upto_region 1 with fail
              generalize w.alloc (.cells #[.int .i64 n.kind, .int .i64 n.num, .string n.text, .slice A3 n.names.length c3, .slice A4 n.kids.length c4, .int .i64 n.at_] 37) = W at *
              have m0 := NB.out.m0
              go_wp2_with fail
              go_ret
              exact ⟨rfl, MN.pre HB.out HX.out⟩
set_option maxHeartbeats 3200000 in
set_option maxRecDepth 100000 in
theorem branch_c (h : MS G w F ids S) (l3 : n.names.length ≤ c3) (f3 : Kd.F Kd.string w G.okl A3 n.names.length n.names) (l4 : n.kids.length ≤ c4) (f4 : Kd.F (Kd.int .i64) w G.okl A4 n.kids.length (ints n.kids)) (ih : NodeOk G m) (hr : branchM (nodeM G.l G.spots G.slots G.funs m) n S = some S') :
    Calls Try.prog 61 #[ptr G.a, (.agg #[.int .i64 n.kind, .int .i64 n.num, .string n.text, .slice A3 n.names.length c3, .slice A4 n.kids.length c4, .int .i64 n.at_])] w fun e w' => e = .returned (.tuple #[]) ∧ MN G w F ids w' S' := by
  unfold branchM at hr
  have hb := (Below.refl w.heap.size w).alloc (Nat.le_refl _) (.cells #[.int .i64 n.kind, .int .i64 n.num, .string n.text, .slice A3 n.names.length c3, .slice A4 n.kids.length c4, .int .i64 n.at_] 37)
  have NB := hid (show NBx G (w.alloc (.cells #[.int .i64 n.kind, .int .i64 n.num, .string n.text, .slice A3 n.names.length c3, .slice A4 n.kids.length c4, .int .i64 n.at_] 37)) w.heap.size n A3 c3 A4 c4 from NBx.new l3 f3 l4 f4)
  have HS0 := hid (h.below hb)
  have HN0 := hid h.free
  have HX := hid (h.below hb).same
  have HB := hid hb
  clear hb l3 f3 l4 f4 h
  obtain ⟨k0, hk0, hr⟩ := Option.bind_eq_some_iff.1 hr
  obtain ⟨k1, hk1, hr⟩ := Option.bind_eq_some_iff.1 hr
  obtain ⟨T1, t1, hr⟩ := Option.bind_eq_some_iff.1 hr
  obtain ⟨T2, t2, hr⟩ := Option.bind_eq_some_iff.1 hr
  obtain ⟨T3, t3, hr⟩ := Option.bind_eq_some_iff.1 hr
  have hkl : 1 < n.kids.length := (List.getElem?_eq_some_iff.1 hk1).1
  obtain ⟨ad, rfl⟩ := NB.out.some (by omega)
  have HK0 := hid hk0
  have hkl0 : 0 < n.kids.length := by omega
  have hki0 : (0 : Int) < (n.kids.length : Int) := by omega
  clear hk0
  have HK1 := hid hk1
  have hkl1 : 1 < n.kids.length := by omega
  have hki1 : (1 : Int) < (n.kids.length : Int) := by omega
  clear hk1
  clear hkl
  have H1 := hid t1
  have H2 := hid t2
  have H3 := hid t3
  have HR := hid hr
  have IH := hid @ih
  clear t1 t2 t3 hr ih
  unfold ptr
  go_enter Try.func61, Try.ntmps61
  go_upto_region 1 with fail
  generalize w.alloc (.cells #[.int .i64 n.kind, .int .i64 n.num, .string n.text, .slice A3 n.names.length c3, .slice (some ad) n.kids.length c4, .int .i64 n.at_] 37) = W at *
  obtain ⟨F1, h1, k1, s1⟩ := id HX.out
  have b1 := NB.out.at HS0.out HN0.out k1
  have m4 := b1.m4
  have q0 := b1.kid0 HK0.out
  have hc := IH.out H1.out h1
  unfold ptr at hc
  have HC := hid hc
  have K := hid k1
  have SS := hid s1
  clear hc h1 k1 s1 b1 HX
  go_wp2_with fail
  refine HC.out.mono ?_
  rintro e w1 ⟨rfl, hN⟩
  have HX := hid (MN.of K.out SS.out hN)
  clear hN HC K SS
  clear m4 q0
  obtain ⟨F2, h2, k2, s2⟩ := id HX.out
  have b2 := NB.out.at HS0.out HN0.out k2
  have hc := mput_c h2 H2.out
  unfold ptr at hc
  have HC := hid hc
  have K := hid k2
  have SS := hid s2
  clear hc h2 k2 s2 b2 HX
  go_wp2_with fail
  refine HC.out.mono ?_
  rintro e w2 ⟨rfl, hN⟩
  have HX := hid (MN.of K.out SS.out hN)
  clear hN HC K SS
  obtain ⟨F3, h3, k3, s3⟩ := id HX.out
  have b3 := NB.out.at HS0.out HN0.out k3
  have m4 := b3.m4
  have q1 := b3.kid1 HK1.out
  have hc := IH.out H3.out h3
  unfold ptr at hc
  have HC := hid hc
  have K := hid k3
  have SS := hid s3
  clear hc h3 k3 s3 b3 HX
  go_wp2_with fail
  refine HC.out.mono ?_
  rintro e w3 ⟨rfl, hN⟩
  have HX := hid (MN.of K.out SS.out hN)
  clear hN HC K SS
  clear m4 q1
  have hr := HR.out
  split at hr
  · rename_i hl3
    have hl3' : (n.kids.length : Int) < 3 := by omega
    have HR1 := hid hr
    clear hr HR hl3
    obtain ⟨F4, h4, k4, s4⟩ := id HX.out
    have b4 := NB.out.at HS0.out HN0.out k4
    have m4 := b4.m4
    have hc := here1_c h4 HR1.out
    unfold ptr at hc
    have HC := hid hc
    have K := hid k4
    have SS := hid s4
    clear hc h4 k4 s4 b4 HX
    go_wp2_with fail
    refine HC.out.mono ?_
    rintro e w4 ⟨rfl, hN⟩
    have HX := hid (MN.of K.out SS.out hN)
    clear hN HC K SS
    go_wp2_with fail
    exact bodyPost_ret (results_none rfl _ _ _) rfl ⟨rfl, MN.pre HB.out HX.out⟩
  · rename_i hl3
    have hl3' : ¬ (n.kids.length : Int) < 3 := by omega
    obtain ⟨k2, hk2, hr⟩ := Option.bind_eq_some_iff.1 hr
    obtain ⟨T4, t4, hr⟩ := Option.bind_eq_some_iff.1 hr
    obtain ⟨T5, t5, hr⟩ := Option.bind_eq_some_iff.1 hr
    obtain ⟨T6, t6, hr⟩ := Option.bind_eq_some_iff.1 hr
    have HK2 := hid hk2
    have hkl2 := (List.getElem?_eq_some_iff.1 hk2).1
    have hki2 : (2 : Int) < (n.kids.length : Int) := by omega
    have H4 := hid t4
    have H5 := hid t5
    have H6 := hid t6
    have H7 := hid hr
    clear hk2 t4 t5 t6 hr HR hl3
    obtain ⟨F4, h4, k4, s4⟩ := id HX.out
    have b4 := NB.out.at HS0.out HN0.out k4
    have m4 := b4.m4
    have hc := mput_c h4 H4.out
    unfold ptr at hc
    have HC := hid hc
    have K := hid k4
    have SS := hid s4
    clear hc h4 k4 s4 b4 HX
    go_wp2_with fail
    refine HC.out.mono ?_
    rintro e w4 ⟨rfl, hN⟩
    have HX := hid (MN.of K.out SS.out hN)
    clear hN HC K SS
    clear m4
    obtain ⟨F5, h5, k5, s5⟩ := id HX.out
    have b5 := NB.out.at HS0.out HN0.out k5
    have hc := here1_c h5 H5.out
    unfold ptr at hc
    have HC := hid hc
    have K := hid k5
    have SS := hid s5
    clear hc h5 k5 s5 b5 HX
    go_wp2_with fail
    refine HC.out.mono ?_
    rintro e w5 ⟨rfl, hN⟩
    have HX := hid (MN.of K.out SS.out hN)
    clear hN HC K SS
    obtain ⟨F6, h6, k6, s6⟩ := id HX.out
    have b6 := NB.out.at HS0.out HN0.out k6
    have m4 := b6.m4
    have q2 := b6.kid2 HK2.out
    have hc := IH.out H6.out h6
    unfold ptr at hc
    have HC := hid hc
    have K := hid k6
    have SS := hid s6
    clear hc h6 k6 s6 b6 HX
    go_wp2_with fail
    refine HC.out.mono ?_
    rintro e w6 ⟨rfl, hN⟩
    have HX := hid (MN.of K.out SS.out hN)
    clear hN HC K SS
    clear m4 q2
    obtain ⟨F7, h7, k7, s7⟩ := id HX.out
    have b7 := NB.out.at HS0.out HN0.out k7
    have hc := here1_c h7 H7.out
    unfold ptr at hc
    have HC := hid hc
    have K := hid k7
    have SS := hid s7
    clear hc h7 k7 s7 b7 HX
    go_wp2_with fail
    refine HC.out.mono ?_
    rintro e w7 ⟨rfl, hN⟩
    have HX := hid (MN.of K.out SS.out hN)
    clear hN HC K SS
    go_wp2_with fail
    exact bodyPost_end (results_none rfl _ _ _) rfl ⟨rfl, MN.pre HB.out HX.out⟩
set_option maxHeartbeats 3200000 in
set_option maxRecDepth 100000 in
theorem either_c (h : MS G w F ids S) (l3 : n.names.length ≤ c3) (f3 : Kd.F Kd.string w G.okl A3 n.names.length n.names) (l4 : n.kids.length ≤ c4) (f4 : Kd.F (Kd.int .i64) w G.okl A4 n.kids.length (ints n.kids)) (ih : NodeOk G m) {op : Int} (hr : eitherM (nodeM G.l G.spots G.slots G.funs m) op n S = some S') :
    Calls Try.prog 60 #[ptr G.a, .int .i64 op, (.agg #[.int .i64 n.kind, .int .i64 n.num, .string n.text, .slice A3 n.names.length c3, .slice A4 n.kids.length c4, .int .i64 n.at_])] w fun e w' => e = .returned (.tuple #[]) ∧ MN G w F ids w' S' := by
  unfold eitherM at hr
  have hb := (Below.refl w.heap.size w).alloc (Nat.le_refl _) (.cells #[.int .i64 n.kind, .int .i64 n.num, .string n.text, .slice A3 n.names.length c3, .slice A4 n.kids.length c4, .int .i64 n.at_] 37)
  have NB := hid (show NBx G (w.alloc (.cells #[.int .i64 n.kind, .int .i64 n.num, .string n.text, .slice A3 n.names.length c3, .slice A4 n.kids.length c4, .int .i64 n.at_] 37)) w.heap.size n A3 c3 A4 c4 from NBx.new l3 f3 l4 f4)
  have HS0 := hid (h.below hb)
  have HN0 := hid h.free
  have HX := hid (h.below hb).same
  have HB := hid hb
  clear hb l3 f3 l4 f4 h
  obtain ⟨k0, hk0, hr⟩ := Option.bind_eq_some_iff.1 hr
  obtain ⟨k1, hk1, hr⟩ := Option.bind_eq_some_iff.1 hr
  obtain ⟨T1, t1, hr⟩ := Option.bind_eq_some_iff.1 hr
  obtain ⟨T2, t2, hr⟩ := Option.bind_eq_some_iff.1 hr
  obtain ⟨T3, t3, hr⟩ := Option.bind_eq_some_iff.1 hr
  have hkl : 1 < n.kids.length := (List.getElem?_eq_some_iff.1 hk1).1
  obtain ⟨ad, rfl⟩ := NB.out.some (by omega)
  have HK0 := hid hk0
  have hkl0 : 0 < n.kids.length := by omega
  have hki0 : (0 : Int) < (n.kids.length : Int) := by omega
  clear hk0
  have HK1 := hid hk1
  have hkl1 : 1 < n.kids.length := by omega
  have hki1 : (1 : Int) < (n.kids.length : Int) := by omega
  clear hk1
  clear hkl
  have H1 := hid t1
  have H2 := hid t2
  have H3 := hid t3
  have HR := hid hr
  have IH := hid @ih
  clear t1 t2 t3 hr ih
  unfold ptr
  go_enter Try.func60, Try.ntmps60
  go_upto_region 1 with fail
  generalize w.alloc (.cells #[.int .i64 n.kind, .int .i64 n.num, .string n.text, .slice A3 n.names.length c3, .slice (some ad) n.kids.length c4, .int .i64 n.at_] 37) = W at *
  obtain ⟨F1, h1, k1, s1⟩ := id HX.out
  have b1 := NB.out.at HS0.out HN0.out k1
  have m4 := b1.m4
  have q0 := b1.kid0 HK0.out
  have hc := IH.out H1.out h1
  unfold ptr at hc
  have HC := hid hc
  have K := hid k1
  have SS := hid s1
  clear hc h1 k1 s1 b1 HX
  go_wp2_with fail
  refine HC.out.mono ?_
  rintro e w1 ⟨rfl, hN⟩
  have HX := hid (MN.of K.out SS.out hN)
  clear hN HC K SS
  clear m4 q0
  obtain ⟨F2, h2, k2, s2⟩ := id HX.out
  have b2 := NB.out.at HS0.out HN0.out k2
  have hc := mput_c h2 H2.out
  unfold ptr at hc
  have HC := hid hc
  have K := hid k2
  have SS := hid s2
  clear hc h2 k2 s2 b2 HX
  go_wp2_with fail
  refine HC.out.mono ?_
  rintro e w2 ⟨rfl, hN⟩
  have HX := hid (MN.of K.out SS.out hN)
  clear hN HC K SS
  obtain ⟨F3, h3, k3, s3⟩ := id HX.out
  have b3 := NB.out.at HS0.out HN0.out k3
  have m4 := b3.m4
  have q1 := b3.kid1 HK1.out
  have hc := IH.out H3.out h3
  unfold ptr at hc
  have HC := hid hc
  have K := hid k3
  have SS := hid s3
  clear hc h3 k3 s3 b3 HX
  go_wp2_with fail
  refine HC.out.mono ?_
  rintro e w3 ⟨rfl, hN⟩
  have HX := hid (MN.of K.out SS.out hN)
  clear hN HC K SS
  clear m4 q1
  obtain ⟨F4, h4, k4, s4⟩ := id HX.out
  have b4 := NB.out.at HS0.out HN0.out k4
  have hc := here1_c h4 HR.out
  unfold ptr at hc
  have HC := hid hc
  have K := hid k4
  have SS := hid s4
  clear hc h4 k4 s4 b4 HX
  go_wp2_with fail
  refine HC.out.mono ?_
  rintro e w4 ⟨rfl, hN⟩
  have HX := hid (MN.of K.out SS.out hN)
  clear hN HC K SS
  go_wp2_with fail
  exact bodyPost_end (results_none rfl _ _ _) rfl ⟨rfl, MN.pre HB.out HX.out⟩
end
end Go.Proofs.Ytibepkblgliooaa.Q
namespace Go.Proofs.Ytibepkblgliooaa.Q
open Go.RowKit
open Go.Proofs.YtibepkblgliooaaW.PrintWords
section
variable {G : MG} {w w' : World} {F : Nat → Prop} {ids : List (Option Nat)} {S S' : Mk} {n : Nd} {A3 A4 : Option Addr} {c3 c4 m k : Nat}
set_option maxHeartbeats 3200000 in
set_option maxRecDepth 100000 in
theorem mname_c (h : MS G w F ids S) (hn : G.l[k]? = some n) (hr : nameM G.spots k n S = some S') :
    Calls Try.prog 57 #[ptr G.a, .int .i64 k] w fun e w' => e = .returned (.tuple #[]) ∧ MN G w F ids w' S' := by
  obtain ⟨s, hs, hr⟩ := Option.bind_eq_some_iff.1 hr
  have hks := (List.getElem?_eq_some_iff.1 hs).1
  have hkl : (k : Int) < (G.l.length : Int) := by have := h.lens; omega
  have hb := (Below.refl w.heap.size w).alloc (Nat.le_refl _) (.cells #[.int .i64 s.depth, .int .i64 s.slot] 85)
  have c1 := h.c1
  have d0 := (cell_of_row _ _ (k * 2) _ _ _ h.sp).trans (c := some (Value.int .i64 s.depth)) (by simpa using (spCells_at hs).1)
  have d1 := (cell_of_row _ _ (k * 2 + 1) _ _ _ h.sp).trans (c := some (Value.int .i64 s.slot)) (by simpa using (spCells_at hs).2)
  have R := hid (heap_alloc_new w (.cells #[.int .i64 s.depth, .int .i64 s.slot] 85))
  have H1 := hid (h.below hb)
  have HB := hid hb
  have HN := hid hn
  clear hs hks hb h hn
  unfold ptr
  go_enter Try.func57, Try.ntmps57
  split at hr
  · rename_i hd
    have hd' : s.depth < 0 := hd
    have HR := hid hr
    clear hr hd
    go_upto_region 1 with fail
    clear d0 d1 c1
    generalize w.alloc (.cells #[.int .i64 s.depth, .int .i64 s.slot] 85) = W at *
    have d0 := (cell_of_row _ _ 0 _ _ _ R.out).trans (b := some (Value.int .i64 s.depth)) rfl
    obtain ⟨A3, c3, A4, c4, _, n0, n1, n2, _⟩ := H1.out.box HN.out
    have g0 := H1.out.c0
    have hc := mtext_c H1.out HR.out
    unfold ptr at hc
    have HC := hid hc
    clear hc n0 n1
    go_wp2_with fail
    refine HC.out.mono ?_
    rintro e w1 ⟨rfl, hN⟩
    have HX := hid (MN.pre HB.out hN)
    clear hN
    go_wp2_with fail
    exact bodyPost_ret (results_none rfl _ _ _) rfl ⟨rfl, HX.out⟩
  · rename_i hd
    have hd' : ¬ s.depth < 0 := hd
    have HR := hid hr
    clear hr hd
    go_upto_region 1 with fail
    clear d0 d1 c1
    generalize w.alloc (.cells #[.int .i64 s.depth, .int .i64 s.slot] 85) = W at *
    have d0 := (cell_of_row _ _ 0 _ _ _ R.out).trans (b := some (Value.int .i64 s.depth)) rfl
    have d1 := (cell_of_row _ _ 1 _ _ _ R.out).trans (b := some (Value.int .i64 s.slot)) rfl
    have hc := add_c (H1.out.below (below_drew (Below.refl _ _))) HR.out
    dsimp only at hc
    have HC := hid hc
    clear hc
    go_upto_region 3 with fail
    refine wp_region_still_tail 8 (by kernel_rfl) (by kernel_rfl) ?_
    simp only [List.take_succ_cons, List.take_zero, List.drop_succ_cons, List.drop_zero]
    repeat still_step
    refine wpStill_nil ?_
    change wpList _ _ _ _ _ W.drew
    go_wp2_with fail
    refine HC.out.mono ?_
    rintro e w1 ⟨rfl, hN⟩
    have HX := hid (MN.pre HB.out (MN.pre (below_drew (Below.refl _ _)) hN))
    clear hN
    go_wp2_with fail
    exact bodyPost_end (results_none rfl _ _ _) rfl ⟨rfl, HX.out⟩
set_option maxHeartbeats 3200000 in
set_option maxRecDepth 100000 in
theorem mcall_c (h : MS G w F ids S) (l3 : n.names.length ≤ c3) (f3 : Kd.F Kd.string w G.okl A3 n.names.length n.names) (l4 : n.kids.length ≤ c4) (f4 : Kd.F (Kd.int .i64) w G.okl A4 n.kids.length (ints n.kids)) (ih : NodeOk G m) (hr : callM G.l (nodeM G.l G.spots G.slots G.funs m) n S = some S') :
    Calls Try.prog 59 #[ptr G.a, (.agg #[.int .i64 n.kind, .int .i64 n.num, .string n.text, .slice A3 n.names.length c3, .slice A4 n.kids.length c4, .int .i64 n.at_])] w fun e w' => e = .returned (.tuple #[]) ∧ MN G w F ids w' S' := by
  unfold callM at hr
  have hb := (Below.refl w.heap.size w).alloc (Nat.le_refl _) (.cells #[.int .i64 n.kind, .int .i64 n.num, .string n.text, .slice A3 n.names.length c3, .slice A4 n.kids.length c4, .int .i64 n.at_] 37)
  have NB := hid (show NBx G (w.alloc (.cells #[.int .i64 n.kind, .int .i64 n.num, .string n.text, .slice A3 n.names.length c3, .slice A4 n.kids.length c4, .int .i64 n.at_] 37)) w.heap.size n A3 c3 A4 c4 from NBx.new l3 f3 l4 f4)
  have HS0 := hid (h.below hb)
  have HN0 := hid h.free
  have HX := hid (h.below hb).same
  have HB := hid hb
  clear hb l3 f3 l4 f4 h
  obtain ⟨k0, hk0, hr⟩ := Option.bind_eq_some_iff.1 hr
  obtain ⟨wh, hwh, hr⟩ := Option.bind_eq_some_iff.1 hr
  generalize htl : n.kids.tail = tl at hr
  have HTL := hid htl
  clear htl
  have HWH := hid hwh
  have HR := hid hr
  have IH := hid @ih
  clear hwh hr ih
  have hkl : 0 < n.kids.length := (List.getElem?_eq_some_iff.1 hk0).1
  obtain ⟨ad, rfl⟩ := NB.out.some (by omega)
  have HK0 := hid hk0
  have hki0 : (0 : Int) < (n.kids.length : Int) := by omega
  clear hk0
  unfold ptr
  go_enter Try.func59, Try.ntmps59
  go_upto_region 1 with fail
  generalize w.alloc (.cells #[.int .i64 n.kind, .int .i64 n.num, .string n.text, .slice A3 n.names.length c3, .slice (some ad) n.kids.length c4, .int .i64 n.at_] 37) = W at *
  obtain ⟨B3, d3, B4, d4, hk0l, n0, n1, n2, n3, n4, n5, _, x3, y3, x4, y4⟩ := HS0.out.box HWH.out
  have g0 := HS0.out.c0
  have hk0l' : (k0 : Int) < (G.l.length : Int) := by omega
  have m4 := NB.out.m4
  have q0 := NB.out.kid0 HK0.out
  have hki1 : (1 : Int) ≤ (n.kids.length : Int) := by omega
  have hnbl := cell_lt m4
  have hadl := cell_lt q0
  have hgl := cell_lt n0
  have hal := HS0.out.lt.1
  dsimp only at hnbl hgl
  go_cut [4, 5] (fun x y wx => x = .pointer (some ⟨W.heap.size, 0, none⟩) ∧ ∃ A5 c5, y = .slice A5 tl.length c5 ∧ Box (Kd.F (Kd.int .i64) wx G.okl A5 tl.length (ints tl)) ∧ Box (MS G wx F ids S) ∧ Box (NBx G wx w.heap.size n A3 c3 (some ad) c4) ∧ Box (NBx G wx W.heap.size wh B3 d3 B4 d4) ∧ Box (Below W.heap.size W wx))
  case first =>
    have HX4 := hid (And.intro x3 (And.intro y3 (And.intro x4 y4)))
    clear x3 y3 x4 y4
    rcases Decidable.em (c4 = 1) with hc1 | hc1
    · subst hc1
      go_region
      go_wp2_with fail
      go_meet
      have hb2 := ((Below.refl W.heap.size W).alloc (Nat.le_refl _) (.cells #[.int .i64 wh.kind, .int .i64 wh.num, .string wh.text, .slice B3 wh.names.length d3, .slice B4 wh.kids.length d4, .int .i64 wh.at_] 37)).drew
      refine ⟨rfl, _, _, by rw [← HTL.out, List.length_tail], hid ?_, hid (HS0.out.below hb2), hid (NB.out.below hb2), hid (NBx.below (show NBx G (W.alloc (.cells #[.int .i64 wh.kind, .int .i64 wh.num, .string wh.text, .slice B3 wh.names.length d3, .slice B4 wh.kids.length d4, .int .i64 wh.at_] 37)) W.heap.size wh B3 d3 B4 d4 from NBx.new HX4.out.1 HX4.out.2.1 HX4.out.2.2.1 HX4.out.2.2.2) (below_drew (Below.refl _ _))), hid hb2⟩
      have := Kd.F_below (NB.out.tail (by omega)) hb2
      rw [HTL.out] at this
      rw [if_pos rfl] at this
      exact this
    · go_region
      go_wp2_with fail
      go_meet
      have hb2 := ((Below.refl W.heap.size W).alloc (Nat.le_refl _) (.cells #[.int .i64 wh.kind, .int .i64 wh.num, .string wh.text, .slice B3 wh.names.length d3, .slice B4 wh.kids.length d4, .int .i64 wh.at_] 37)).drew
      refine ⟨rfl, _, _, by rw [← HTL.out, List.length_tail], hid ?_, hid (HS0.out.below hb2), hid (NB.out.below hb2), hid (NBx.below (show NBx G (W.alloc (.cells #[.int .i64 wh.kind, .int .i64 wh.num, .string wh.text, .slice B3 wh.names.length d3, .slice B4 wh.kids.length d4, .int .i64 wh.at_] 37)) W.heap.size wh B3 d3 B4 d4 from NBx.new HX4.out.1 HX4.out.2.1 HX4.out.2.2.1 HX4.out.2.2.2) (below_drew (Below.refl _ _))), hid hb2⟩
      have := Kd.F_below (NB.out.tail (by omega)) hb2
      rw [HTL.out] at this
      rw [if_neg hc1] at this
      exact this
  case rest =>
    obtain ⟨rfl, A5, c5, rfl, HF5, HS1, NB1, NB2, HBW⟩ := hcut
    have HN1 := hid HS0.out.free
    have HN0' := HN0
    have HX := hid HS1.out.same
    have HBB := hid (HB.out.trans (HBW.out.mono HB.out.size))
    clear n0 n1 n2 n3 n4 n5 g0 m4 q0 x3 y3 x4 y4 hnbl hadl hgl hal
    have hr := HR.out
    split at hr
    · rename_i g11
      have t11 : (wh.kind == (11 : Int)) = true := by simp [g11]
      clear g11
      obtain ⟨T1, t1, hr⟩ := Option.bind_eq_some_iff.1 hr
      obtain ⟨T2, t2, hr⟩ := Option.bind_eq_some_iff.1 hr
      obtain ⟨T3, t3, hr⟩ := Option.bind_eq_some_iff.1 hr
      have H1 := hid t1
      have H2 := hid t2
      have H3 := hid t3
      have HR4 := hid hr
      clear t1 t2 t3 hr HR
      obtain ⟨F1, h1, k1, s1⟩ := id HX.out
      have b1 := NB2.out.at HS1.out HN1.out k1
      have m0 := b1.m0
      have m4 := b1.m4
      have hc := mall_c (c := d4) IH.out h1 H1.out b1.f4
      unfold ptr at hc
      have HC := hid hc
      have K := hid k1
      have SS := hid s1
      clear hc h1 k1 s1 b1 HX
      go_wp2_with fail
      refine HC.out.mono ?_
      rintro e w1 ⟨rfl, hN⟩
      have HX := hid (MN.of K.out SS.out hN)
      clear hN HC K SS
      clear m0 m4
      obtain ⟨F2, h2, k2, s2⟩ := id HX.out
      have b2 := NB2.out.at HS1.out HN1.out k2
      have m2 := b2.m2
      have hc := mtext_c h2 H2.out
      unfold ptr at hc
      have HC := hid hc
      have K := hid k2
      have SS := hid s2
      clear hc h2 k2 s2 b2 HX
      go_wp2_with fail
      refine HC.out.mono ?_
      rintro e w2 ⟨rfl, hN⟩
      have HX := hid (MN.of K.out SS.out hN)
      clear hN HC K SS
      clear m2
      obtain ⟨F3, h3, k3, s3⟩ := id HX.out
      have b3 := NB2.out.at HS1.out HN1.out k3
      have f5 := Kd.F_step HF5.out (fun j q _ => k3.offM HS1.out.offl j q)
      have hc := mall_c (c := c5) IH.out h3 H3.out f5
      unfold ptr at hc
      have HC := hid hc
      have K := hid k3
      have SS := hid s3
      clear hc h3 k3 s3 b3 HX
      clear f5
      go_wp2_with fail
      refine HC.out.mono ?_
      rintro e w3 ⟨rfl, hN⟩
      have HX := hid (MN.of K.out SS.out hN)
      clear hN HC K SS
      obtain ⟨F4, h4, k4, s4⟩ := id HX.out
      have b4 := NB2.out.at HS1.out HN1.out k4
      have hc := mnum_c h4 HR4.out
      unfold ptr at hc
      have HC := hid hc
      have K := hid k4
      have SS := hid s4
      clear hc h4 k4 s4 b4 HX
      go_wp2_with fail
      refine HC.out.mono ?_
      rintro e w4 ⟨rfl, hN⟩
      have HX := hid (MN.of K.out SS.out hN)
      clear hN HC K SS
      go_wp2_with fail
      exact bodyPost_end (results_none rfl _ _ _) rfl ⟨rfl, MN.pre HBB.out HX.out⟩
    · rename_i g11
      split at hr
      · rename_i g12
        have t11 : (wh.kind == (11 : Int)) = false := by simp [g11]
        have t12 : (wh.kind == (12 : Int)) = true := by simp [g12]
        clear g11 g12
        obtain ⟨T1, t1, hr⟩ := Option.bind_eq_some_iff.1 hr
        obtain ⟨T2, t2, hr⟩ := Option.bind_eq_some_iff.1 hr
        obtain ⟨T3, t3, hr⟩ := Option.bind_eq_some_iff.1 hr
        have H1 := hid t1
        have H2 := hid t2
        have H3 := hid t3
        have HR4 := hid hr
        clear t1 t2 t3 hr HR
        obtain ⟨F1, h1, k1, s1⟩ := id HX.out
        have b1 := NB2.out.at HS1.out HN1.out k1
        have m0 := b1.m0
        have m4 := b1.m4
        have hc := mall_c (c := d4) IH.out h1 H1.out b1.f4
        unfold ptr at hc
        have HC := hid hc
        have K := hid k1
        have SS := hid s1
        clear hc h1 k1 s1 b1 HX
        go_wp2_with fail
        refine HC.out.mono ?_
        rintro e w1 ⟨rfl, hN⟩
        have HX := hid (MN.of K.out SS.out hN)
        clear hN HC K SS
        clear m0 m4
        obtain ⟨F2, h2, k2, s2⟩ := id HX.out
        have b2 := NB2.out.at HS1.out HN1.out k2
        have hc := mput_c h2 H2.out
        unfold ptr at hc
        have HC := hid hc
        have K := hid k2
        have SS := hid s2
        clear hc h2 k2 s2 b2 HX
        go_wp2_with fail
        refine HC.out.mono ?_
        rintro e w2 ⟨rfl, hN⟩
        have HX := hid (MN.of K.out SS.out hN)
        clear hN HC K SS
        obtain ⟨F3, h3, k3, s3⟩ := id HX.out
        have b3 := NB2.out.at HS1.out HN1.out k3
        have f5 := Kd.F_step HF5.out (fun j q _ => k3.offM HS1.out.offl j q)
        have hc := mall_c (c := c5) IH.out h3 H3.out f5
        unfold ptr at hc
        have HC := hid hc
        have K := hid k3
        have SS := hid s3
        clear hc h3 k3 s3 b3 HX
        clear f5
        go_wp2_with fail
        refine HC.out.mono ?_
        rintro e w3 ⟨rfl, hN⟩
        have HX := hid (MN.of K.out SS.out hN)
        clear hN HC K SS
        obtain ⟨F4, h4, k4, s4⟩ := id HX.out
        have b4 := NB2.out.at HS1.out HN1.out k4
        have hc := mnum_c h4 HR4.out
        unfold ptr at hc
        have HC := hid hc
        have K := hid k4
        have SS := hid s4
        clear hc h4 k4 s4 b4 HX
        go_wp2_with fail
        refine HC.out.mono ?_
        rintro e w4 ⟨rfl, hN⟩
        have HX := hid (MN.of K.out SS.out hN)
        clear hN HC K SS
        go_wp2_with fail
        exact bodyPost_end (results_none rfl _ _ _) rfl ⟨rfl, MN.pre HBB.out HX.out⟩
      · rename_i g12
        have t11 : (wh.kind == (11 : Int)) = false := by simp [g11]
        have t12 : (wh.kind == (12 : Int)) = false := by simp [g12]
        clear g11 g12
        obtain ⟨T2, t2, hr⟩ := Option.bind_eq_some_iff.1 hr
        obtain ⟨T3, t3, hr⟩ := Option.bind_eq_some_iff.1 hr
        have H2 := hid t2
        have H3 := hid t3
        have HR4 := hid hr
        clear t2 t3 hr HR
        obtain ⟨F1, h1, k1, s1⟩ := id HX.out
        have b1 := NB2.out.at HS1.out HN1.out k1
        have m0 := b1.m0
        have bb := NB1.out.at HS1.out (fun e => HN0.out e) k1
        have m4 := bb.m4
        have q0 := bb.kid0 HK0.out
        clear bb
        have hc := IH.out H2.out h1
        unfold ptr at hc
        have HC := hid hc
        have K := hid k1
        have SS := hid s1
        clear hc h1 k1 s1 b1 HX
        go_wp2_with fail
        refine HC.out.mono ?_
        rintro e w1 ⟨rfl, hN⟩
        have HX := hid (MN.of K.out SS.out hN)
        clear hN HC K SS
        clear m0 m4 q0
        obtain ⟨F2, h2, k2, s2⟩ := id HX.out
        have b2 := NB2.out.at HS1.out HN1.out k2
        have f5 := Kd.F_step HF5.out (fun j q _ => k2.offM HS1.out.offl j q)
        have hc := mall_c (c := c5) IH.out h2 H3.out f5
        unfold ptr at hc
        have HC := hid hc
        have K := hid k2
        have SS := hid s2
        clear hc h2 k2 s2 b2 HX
        clear f5
        go_wp2_with fail
        refine HC.out.mono ?_
        rintro e w2 ⟨rfl, hN⟩
        have HX := hid (MN.of K.out SS.out hN)
        clear hN HC K SS
        obtain ⟨F3, h3, k3, s3⟩ := id HX.out
        have b3 := NB2.out.at HS1.out HN1.out k3
        have hc := mnum_c h3 HR4.out
        unfold ptr at hc
        have HC := hid hc
        have K := hid k3
        have SS := hid s3
        clear hc h3 k3 s3 b3 HX
        go_wp2_with fail
        refine HC.out.mono ?_
        rintro e w3 ⟨rfl, hN⟩
        have HX := hid (MN.of K.out SS.out hN)
        clear hN HC K SS
        go_wp2_with fail
        exact bodyPost_end (results_none rfl _ _ _) rfl ⟨rfl, MN.pre HBB.out HX.out⟩
set_option maxHeartbeats 3200000 in
set_option maxRecDepth 100000 in
theorem mset_c (h : MS G w F ids S) (l3 : n.names.length ≤ c3) (f3 : Kd.F Kd.string w G.okl A3 n.names.length n.names) (l4 : n.kids.length ≤ c4) (f4 : Kd.F (Kd.int .i64) w G.okl A4 n.kids.length (ints n.kids)) (ih : NodeOk G m) (hr : setM G.l G.spots (nodeM G.l G.spots G.slots G.funs m) n S = some S') :
    Calls Try.prog 62 #[ptr G.a, (.agg #[.int .i64 n.kind, .int .i64 n.num, .string n.text, .slice A3 n.names.length c3, .slice A4 n.kids.length c4, .int .i64 n.at_])] w fun e w' => e = .returned (.tuple #[]) ∧ MN G w F ids w' S' := by
  unfold setM at hr
  have hb := (Below.refl w.heap.size w).alloc (Nat.le_refl _) (.cells #[.int .i64 n.kind, .int .i64 n.num, .string n.text, .slice A3 n.names.length c3, .slice A4 n.kids.length c4, .int .i64 n.at_] 37)
  have NB := hid (show NBx G (w.alloc (.cells #[.int .i64 n.kind, .int .i64 n.num, .string n.text, .slice A3 n.names.length c3, .slice A4 n.kids.length c4, .int .i64 n.at_] 37)) w.heap.size n A3 c3 A4 c4 from NBx.new l3 f3 l4 f4)
  have HS0 := hid (h.below hb)
  have HN0 := hid h.free
  have HX := hid (h.below hb).same
  have HB := hid hb
  clear hb l3 f3 l4 f4 h
  obtain ⟨k0, hk0, hr⟩ := Option.bind_eq_some_iff.1 hr
  obtain ⟨k1, hk1, hr⟩ := Option.bind_eq_some_iff.1 hr
  obtain ⟨wh, hwh, hr⟩ := Option.bind_eq_some_iff.1 hr
  have HWH := hid hwh
  have HR := hid hr
  have IH := hid @ih
  have HK1 := hid hk1
  have hki1' := (List.getElem?_eq_some_iff.1 hk1).1
  have hki1x : (1 : Int) < (n.kids.length : Int) := by omega
  clear hwh hr ih hk1
  have hkl : 0 < n.kids.length := (List.getElem?_eq_some_iff.1 hk0).1
  obtain ⟨ad, rfl⟩ := NB.out.some (by omega)
  have HK0 := hid hk0
  have hki0 : (0 : Int) < (n.kids.length : Int) := by omega
  clear hk0
  unfold ptr
  go_enter Try.func62, Try.ntmps62
  go_upto_region 1 with fail
  generalize w.alloc (.cells #[.int .i64 n.kind, .int .i64 n.num, .string n.text, .slice A3 n.names.length c3, .slice (some ad) n.kids.length c4, .int .i64 n.at_] 37) = W at *
  obtain ⟨B3, d3, B4, d4, hk0l, n0, n1, n2, n3, n4, n5, _, x3, y3, x4, y4⟩ := HS0.out.box HWH.out
  have g0 := HS0.out.c0
  have hk0l' : (k0 : Int) < (G.l.length : Int) := by omega
  have m4 := NB.out.m4
  have q0 := NB.out.kid0 HK0.out
  have hki1 : (1 : Int) ≤ (n.kids.length : Int) := by omega
  have hnbl := cell_lt m4
  have hadl := cell_lt q0
  have hgl := cell_lt n0
  have hal := HS0.out.lt.1
  dsimp only at hnbl hgl
  have q1 := NB.out.kid1 HK1.out
  go_cut [4, 5] (fun x y wx => x = .pointer (some ⟨W.heap.size, 0, none⟩) ∧ y = .int .i64 k1 ∧ Box (MS G wx F ids S) ∧ Box (NBx G wx w.heap.size n A3 c3 (some ad) c4) ∧ Box (NBx G wx W.heap.size wh B3 d3 B4 d4) ∧ Box (Below W.heap.size W wx))
  case first =>
    have HX4 := hid (And.intro x3 (And.intro y3 (And.intro x4 y4)))
    clear x3 y3 x4 y4
    go_region
    go_wp2_with fail
    go_meet
    have hb2 := ((Below.refl W.heap.size W).alloc (Nat.le_refl _) (.cells #[.int .i64 wh.kind, .int .i64 wh.num, .string wh.text, .slice B3 wh.names.length d3, .slice B4 wh.kids.length d4, .int .i64 wh.at_] 37)).drew
    exact ⟨rfl, rfl, hid (HS0.out.below hb2), hid (NB.out.below hb2), hid (NBx.below (show NBx G (W.alloc (.cells #[.int .i64 wh.kind, .int .i64 wh.num, .string wh.text, .slice B3 wh.names.length d3, .slice B4 wh.kids.length d4, .int .i64 wh.at_] 37)) W.heap.size wh B3 d3 B4 d4 from NBx.new HX4.out.1 HX4.out.2.1 HX4.out.2.2.1 HX4.out.2.2.2) (below_drew (Below.refl _ _))), hid hb2⟩
  case rest =>
    obtain ⟨rfl, rfl, HS1, NB1, NB2, HBW⟩ := hcut
    have HN1 := hid HS0.out.free
    have HX := hid HS1.out.same
    have HBB := hid (HB.out.trans (HBW.out.mono HB.out.size))
    clear n0 n1 n2 n3 n4 n5 g0 m4 q0 q1 x3 y3 x4 y4 hnbl hadl hgl hal
    have hr := HR.out
    split at hr
    · rename_i g3
      have t3 : (wh.kind == (3 : Int)) = true := by simp [g3]
      clear g3
      obtain ⟨s, hs, hr⟩ := Option.bind_eq_some_iff.1 hr
      obtain ⟨T1, t1, hr⟩ := Option.bind_eq_some_iff.1 hr
      have H1 := hid t1
      have HR2 := hid hr
      have hks := (List.getElem?_eq_some_iff.1 hs).1
      clear t1 hr HR
      have d0 := (cell_of_row _ _ (k0 * 2) _ _ _ HS1.out.sp).trans (c := some (Value.int .i64 s.depth)) (by simpa using (spCells_at hs).1)
      have d1 := (cell_of_row _ _ (k0 * 2 + 1) _ _ _ HS1.out.sp).trans (c := some (Value.int .i64 s.slot)) (by simpa using (spCells_at hs).2)
      have c1 := HS1.out.c1
      have m0 := NB2.out.m0
      have m4 := NB1.out.m4
      have q0 := NB1.out.kid0 HK0.out
      clear hs hks
      go_upto_region 7 with fail
      clear m0
      have hnbl := cell_lt m4
      have hadl := cell_lt q0
      have hal := HS1.out.lt.1
      have hb1l := HS1.out.lt.2.1
      dsimp only at hnbl
      go_region
      have hb3 := ((Below.refl wc.heap.size wc).alloc (Nat.le_refl _) (.cells #[.int .i64 s.depth, .int .i64 s.slot] 85)).drew
      have R3 : Box ((wc.alloc (.cells #[.int .i64 s.depth, .int .i64 s.slot] 85)).drew.heap[wc.heap.size]? = some (.cells #[.int .i64 s.depth, .int .i64 s.slot] 85 (0, 0))) := hid (heap_alloc_new wc (.cells #[.int .i64 s.depth, .int .i64 s.slot] 85))
      have HS3 := hid (HS1.out.below hb3)
      have HN3 := hid HS1.out.free
      have HB3 := hid (HBB.out.trans (hb3.mono HBB.out.size))
      have hc := IH.out H1.out HS3.out
      unfold ptr at hc
      have HC := hid hc
      clear hc hb3 d0 d1 c1 m4 q0 hnbl hadl hal hb1l NB1 NB2 HX
      generalize (wc.alloc (.cells #[.int .i64 s.depth, .int .i64 s.slot] 85)).drew = W3 at *
      go_wp2_with fail
      refine HC.out.mono ?_
      rintro e w4 ⟨rfl, F4, h4, k4, s4⟩
      have r4 := k4.heap R3.out HN3.out
      have d0 := (cell_of_row _ _ 0 _ _ _ r4).trans (b := some (Value.int .i64 s.depth)) rfl
      have d1 := (cell_of_row _ _ 1 _ _ _ r4).trans (b := some (Value.int .i64 s.slot)) rfl
      have hc := add_c (h4.below (below_drew (Below.refl _ _))) HR2.out
      dsimp only at hc
      have HC2 := hid hc
      have K := hid k4
      have SS := hid s4
      clear hc h4 k4 s4 r4 HC
      go_upto_region 9 with fail
      refine wp_region_still_tail 8 (by kernel_rfl) (by kernel_rfl) ?_
      simp only [List.take_succ_cons, List.take_zero, List.drop_succ_cons, List.drop_zero]
      repeat still_step
      refine wpStill_nil ?_
      change wpList _ _ _ _ _ w4.drew
      go_wp2_with fail
      refine HC2.out.mono ?_
      rintro e w5 ⟨rfl, hN⟩
      have HX := hid (MN.of K.out SS.out (MN.pre (below_drew (Below.refl _ _)) hN))
      clear hN
      go_wp2_with fail
      exact bodyPost_end (results_none rfl _ _ _) rfl ⟨rfl, MN.pre HB3.out HX.out⟩
    · rename_i g3
      split at hr
      · rename_i g11
        have t3 : (wh.kind == (3 : Int)) = false := by simp [g3]
        have t11 : (wh.kind == (11 : Int)) = true := by simp [g11]
        clear g3 g11
        obtain ⟨T1, t1, hr⟩ := Option.bind_eq_some_iff.1 hr
        obtain ⟨T2, t2, hr⟩ := Option.bind_eq_some_iff.1 hr
        have H1 := hid t1
        have H2 := hid t2
        have HR3 := hid hr
        clear t1 t2 hr HR
        obtain ⟨F1, h1, k1, s1⟩ := id HX.out
        have b1 := NB2.out.at HS1.out HN1.out k1
        have m0 := b1.m0
        have m4 := b1.m4
        have hc := mall_c (c := d4) IH.out h1 H1.out b1.f4
        unfold ptr at hc
        have HC := hid hc
        have K := hid k1
        have SS := hid s1
        clear hc h1 k1 s1 b1 HX
        go_wp2_with fail
        refine HC.out.mono ?_
        rintro e w1 ⟨rfl, hN⟩
        have HX := hid (MN.of K.out SS.out hN)
        clear hN HC K SS
        clear m0 m4
        obtain ⟨F2, h2, k2, s2⟩ := id HX.out
        have b2 := NB2.out.at HS1.out HN1.out k2
        have hc := IH.out H2.out h2
        unfold ptr at hc
        have HC := hid hc
        have K := hid k2
        have SS := hid s2
        clear hc h2 k2 s2 b2 HX
        go_wp2_with fail
        refine HC.out.mono ?_
        rintro e w2 ⟨rfl, hN⟩
        have HX := hid (MN.of K.out SS.out hN)
        clear hN HC K SS
        obtain ⟨F3, h3, k3, s3⟩ := id HX.out
        have b3 := NB2.out.at HS1.out HN1.out k3
        have m2 := b3.m2
        have hc := mtext_c h3 HR3.out
        unfold ptr at hc
        have HC := hid hc
        have K := hid k3
        have SS := hid s3
        clear hc h3 k3 s3 b3 HX
        go_wp2_with fail
        refine HC.out.mono ?_
        rintro e w3 ⟨rfl, hN⟩
        have HX := hid (MN.of K.out SS.out hN)
        clear hN HC K SS
        clear m2
        go_wp2_with fail
        exact bodyPost_end (results_none rfl _ _ _) rfl ⟨rfl, MN.pre HBB.out HX.out⟩
      · rename_i g11
        have t3 : (wh.kind == (3 : Int)) = false := by simp [g3]
        have t11 : (wh.kind == (11 : Int)) = false := by simp [g11]
        clear g3 g11
        obtain ⟨T1, t1, hr⟩ := Option.bind_eq_some_iff.1 hr
        obtain ⟨T2, t2, hr⟩ := Option.bind_eq_some_iff.1 hr
        have H1 := hid t1
        have H2 := hid t2
        have HR3 := hid hr
        clear t1 t2 hr HR
        obtain ⟨F1, h1, k1, s1⟩ := id HX.out
        have b1 := NB2.out.at HS1.out HN1.out k1
        have m0 := b1.m0
        have m4 := b1.m4
        have hc := mall_c (c := d4) IH.out h1 H1.out b1.f4
        unfold ptr at hc
        have HC := hid hc
        have K := hid k1
        have SS := hid s1
        clear hc h1 k1 s1 b1 HX
        go_wp2_with fail
        refine HC.out.mono ?_
        rintro e w1 ⟨rfl, hN⟩
        have HX := hid (MN.of K.out SS.out hN)
        clear hN HC K SS
        clear m0 m4
        obtain ⟨F2, h2, k2, s2⟩ := id HX.out
        have b2 := NB2.out.at HS1.out HN1.out k2
        have hc := IH.out H2.out h2
        unfold ptr at hc
        have HC := hid hc
        have K := hid k2
        have SS := hid s2
        clear hc h2 k2 s2 b2 HX
        go_wp2_with fail
        refine HC.out.mono ?_
        rintro e w2 ⟨rfl, hN⟩
        have HX := hid (MN.of K.out SS.out hN)
        clear hN HC K SS
        obtain ⟨F3, h3, k3, s3⟩ := id HX.out
        have b3 := NB2.out.at HS1.out HN1.out k3
        have hc := mput_c h3 HR3.out
        unfold ptr at hc
        have HC := hid hc
        have K := hid k3
        have SS := hid s3
        clear hc h3 k3 s3 b3 HX
        go_wp2_with fail
        refine HC.out.mono ?_
        rintro e w3 ⟨rfl, hN⟩
        have HX := hid (MN.of K.out SS.out hN)
        clear hN HC K SS
        go_wp2_with fail
        exact bodyPost_end (results_none rfl _ _ _) rfl ⟨rfl, MN.pre HBB.out HX.out⟩
end
end Go.Proofs.Ytibepkblgliooaa.Q
namespace Go.Proofs.Ytibepkblgliooaa.Q
open Go.RowKit
open Go.Proofs.YtibepkblgliooaaW.PrintWords
theorem callFunc_ok {P : Program} {f : FuncId} {fn : Func} (hf : P.funcs[f]? = some fn) (hname : (fn.name == "runtime.NumGoroutine") = false) (hb : fn.body.isSome = true) (args : Array Value) (w : World) : (callFunc f args).run P w = .ok (.enter f args) w := by
  have h1 : fn.name ≠ "runtime.NumGoroutine" := by simpa using hname
  obtain ⟨c, hc⟩ := Option.isSome_iff_exists.1 hb
  simp [callFunc, hf, h1, hc]
section
variable {G : MG} {w w' : World} {F E : Nat → Prop} {ids : List (Option Nat)} {S S' S2 S3 : Mk} {n : Nd} {A A3 A4 : Option Addr} {c c3 c4 m k bm bk nb : Nat} {ks : List Nat} {ad : Addr}
theorem WN.mn {pid : Option Nat} (h : WN G w F (fun _ => False) ids pid w' S2 S3) : MN G w F ids w' S3 := by
  obtain ⟨y, F', E', _, _, h1, _, h2, h3, _⟩ := h
  exact ⟨F', h1, h2.mono (fun k q => q.elim .inl (fun q => q.elim .inr (fun q => q.elim))), fun k q => (h3 k (.inl q)).elim .inl (fun q => q.elim (fun q => q.elim) .inr)⟩
theorem MS.codeLen (h : MS G w F ids S) : ∃ A c, w.cell? ⟨G.a, 4, none⟩ = some (.slice A S.code.length c) := by
  obtain ⟨okc, cv, oko, ov, f, h⟩ := h
  obtain ⟨A, c, rfl⟩ := Kd.R_slice h.code
  exact ⟨A, c, (cell_of_row _ _ _ _ _ _ h.cell).trans rfl⟩
set_option maxHeartbeats 800000 in
set_option maxRecDepth 100000 in
theorem blockDo_c (ih : NodeOk G m) (h : MS G w F ids S) (rm : w.cell? ⟨bm, 0, none⟩ = some (ptr G.a)) (rk : w.cell? ⟨bk, 0, none⟩ = some (.slice A ks.length c)) (hr : allM (nodeM G.l G.spots G.slots G.funs m) ks S = some S') (hk : Kd.F (Kd.int .i64) w G.okl A ks.length (ints ks)) :
    Calls Try.prog 91 #[ptr bm, ptr bk] w fun e w' => e = .returned (.tuple #[]) ∧ MN G w F ids w' S' := by
  have hc := mall_c (c := c) ih h hr hk
  unfold ptr at *
  have HC := hid hc
  clear hc h hk hr ih
  go_enter Try.func91, Try.ntmps91
  go_wp2_with fail
  refine HC.out.mono ?_
  rintro e w1 ⟨rfl, hN⟩
  have HN := hid hN
  clear hN
  go_wp2_with fail
  exact bodyPost_end (results_none rfl _ _ _) rfl ⟨rfl, HN.out⟩
set_option maxHeartbeats 800000 in
set_option maxRecDepth 100000 in
theorem tryDo_c (ih : NodeOk G m) (h : MS G w F ids S) (rm : w.cell? ⟨bm, 0, none⟩ = some (ptr G.a)) (rk : w.cell? ⟨bk, 0, none⟩ = some (.slice A ks.length c)) (hr : allM (nodeM G.l G.spots G.slots G.funs m) ks S = some S') (hk : Kd.F (Kd.int .i64) w G.okl A ks.length (ints ks)) :
    Calls Try.prog 94 #[ptr bm, ptr bk] w fun e w' => e = .returned (.tuple #[]) ∧ MN G w F ids w' S' := by
  have hc := mall_c (c := c) ih h hr hk
  unfold ptr at *
  have HC := hid hc
  clear hc h hk hr ih
  go_enter Try.func94, Try.ntmps94
  go_wp2_with fail
  refine HC.out.mono ?_
  rintro e w1 ⟨rfl, hN⟩
  have HN := hid hN
  clear hN
  go_wp2_with fail
  exact bodyPost_end (results_none rfl _ _ _) rfl ⟨rfl, HN.out⟩
set_option maxHeartbeats 800000 in
set_option maxRecDepth 100000 in
theorem whileDo_c (ih : NodeOk G m) (h : MS G w F ids S) (rm : w.cell? ⟨bm, 0, none⟩ = some (ptr G.a)) (b : NBx G w nb n A3 c3 (some ad) c4) (hk : n.kids[1]? = some k) (hr : nodeM G.l G.spots G.slots G.funs m k S = some S') :
    Calls Try.prog 92 #[ptr bm, ptr nb] w fun e w' => e = .returned (.tuple #[]) ∧ MN G w F ids w' S' := by
  have hkl := (List.getElem?_eq_some_iff.1 hk).1
  have hki : (1 : Int) < (n.kids.length : Int) := by omega
  have m4 := b.m4
  have q1 := b.kid1 hk
  have hc := ih hr (h.below (below_drew (Below.refl _ _)))
  unfold ptr at *
  have HC := hid hc
  clear hc h b hr ih hk
  go_enter Try.func92, Try.ntmps92
  go_upto_region 0 with fail
  refine wp_region_still_tail 5 (by kernel_rfl) (by kernel_rfl) ?_
  simp only [List.take_succ_cons, List.take_zero, List.drop_succ_cons, List.drop_zero]
  repeat still_step
  refine wpStill_nil ?_
  change wpList _ _ _ _ _ w.drew
  go_wp2_with fail
  refine HC.out.mono ?_
  rintro e w1 ⟨rfl, hN⟩
  have HN := hid (MN.pre (below_drew (Below.refl _ _)) hN)
  clear hN
  go_wp2_with fail
  exact bodyPost_end (results_none rfl _ _ _) rfl ⟨rfl, HN.out⟩
set_option maxHeartbeats 800000 in
set_option maxRecDepth 100000 in
theorem tryNode_c (ih : NodeOk G m) (h : MS G w F ids S) (rm : w.cell? ⟨bm, 0, none⟩ = some (ptr G.a)) (b : NBx G w nb n A3 c3 (some ad) c4) (hk : n.kids[0]? = some k) (hr : nodeM G.l G.spots G.slots G.funs m k S = some S') :
    Calls Try.prog 93 #[ptr bm, ptr nb] w fun e w' => e = .returned (.tuple #[]) ∧ MN G w F ids w' S' := by
  have hkl := (List.getElem?_eq_some_iff.1 hk).1
  have hki : (0 : Int) < (n.kids.length : Int) := by omega
  have m4 := b.m4
  have q1 := b.kid0 hk
  have hc := ih hr (h.below (below_drew (Below.refl _ _)))
  unfold ptr at *
  have HC := hid hc
  clear hc h b hr ih hk
  go_enter Try.func93, Try.ntmps93
  go_upto_region 0 with fail
  refine wp_region_still_tail 5 (by kernel_rfl) (by kernel_rfl) ?_
  simp only [List.take_succ_cons, List.take_zero, List.drop_succ_cons, List.drop_zero]
  repeat still_step
  refine wpStill_nil ?_
  change wpList _ _ _ _ _ w.drew
  go_wp2_with fail
  refine HC.out.mono ?_
  rintro e w1 ⟨rfl, hN⟩
  have HN := hid (MN.pre (below_drew (Below.refl _ _)) hN)
  clear hN
  go_wp2_with fail
  exact bodyPost_end (results_none rfl _ _ _) rfl ⟨rfl, HN.out⟩
end
end Go.Proofs.Ytibepkblgliooaa.Q
