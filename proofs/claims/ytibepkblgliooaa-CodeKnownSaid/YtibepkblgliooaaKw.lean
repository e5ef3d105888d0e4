/- What a proof further on needs (part w). -/
import Derived.Maps.OwnSet
import Derived.Maps.Views
import Derived.Test.YtibepkblgliooaaKc
import Derived.Test.YtibepkblgliooaaKv
set_option linter.unusedVariables false
namespace Go.Proofs.Ytibepkblgliooaa.Q
open Go.RowKit Go.Maps
open Go.Proofs.YtibepkblgliooaaW.PrintWords
theorem funNo_other {j k : Nat} : ∀ (fs : List Nat) (i : Nat), k ≠ j → funNo (fs ++ [j]) k i = funNo fs k i
  | [], i, h => by simp [funNo, Ne.symm h]
  | x :: fs, i, h => by
    show (if Nat.beq x k then (i : Int) else funNo (fs ++ [j]) k (i + 1)) = if Nat.beq x k then (i : Int) else funNo fs k (i + 1)
    rw [funNo_other fs (i + 1) h]
theorem funNo_new {j : Nat} : ∀ (fs : List Nat) (i : Nat), (∀ x ∈ fs, x < j) → funNo (fs ++ [j]) j i = ((i + fs.length : Nat) : Int)
  | [], i, _ => by simp [funNo]
  | x :: fs, i, h => by
    have hx : x < j := h x (by simp)
    have hb : Nat.beq x j = false := by
      cases hq : Nat.beq x j
      · rfl
      · have := Nat.eq_of_beq_eq_true hq; omega
    show (if Nat.beq x j then (i : Int) else funNo (fs ++ [j]) j (i + 1)) = _
    rw [hb, if_neg (by decide), funNo_new fs (i + 1) (fun y hy => h y (by simp [hy]))]
    simp; omega
theorem funsL_lt : ∀ (l : List Nd) (i : Nat), ∀ x ∈ funsL l i, i ≤ x ∧ x < i + l.length
  | [], _, x, h => by simp [funsL] at h
  | n :: l, i, x, h => by
    unfold funsL at h
    split at h
    · rcases List.mem_cons.1 h with h | h
      · subst h; simp
      · have := funsL_lt l (i + 1) x h; simp; omega
    · have := funsL_lt l (i + 1) x h; simp; omega
theorem funsL_snoc (n : Nd) : ∀ (l : List Nd) (i : Nat), funsL (l ++ [n]) i = funsL l i ++ (if n.kind = 10 then [i + l.length] else [])
  | [], i => by simp [funsL]
  | m :: l, i => by
    have e : i + 1 + l.length = i + (m :: l).length := by simp; omega
    show (if m.kind = 10 then i :: funsL (l ++ [n]) (i + 1) else funsL (l ++ [n]) (i + 1)) = (if m.kind = 10 then i :: funsL l (i + 1) else funsL l (i + 1)) ++ _
    rw [funsL_snoc n l (i + 1), e]
    split <;> rfl
/-- A map under way: of these, in order, their numbers. -/
def MapL (w : World) (mb : Nat) (fs : List Nat) : Prop :=
  ∃ D : DataW Unit, w.ownsMap Try.prog 3 (plainElem Try.prog 3) mb fs.length D ∧ ∀ k : Nat, k ≤ 1048576 → D.atKey (.int .i64 k) (.lit (.int .i64 0)) = .lit (.int .i64 (funNo fs k 1))
theorem MapL.made (w : World) : MapL (w.alloc (.map #[] 0)) w.heap.size [] := ⟨.map [], World.ownsMap_made w _ _ _, fun x _ => by simp [DataW.atKey, funNo]⟩
theorem MapL.mapF {w : World} {mb : Nat} {fs : List Nat} (h : MapL w mb fs) : MapF w mb (fun k => funNo fs k 1) := ⟨_, h⟩
theorem MapL.kp {w w' : World} {mb : Nat} {fs : List Nat} (h : MapL w mb fs) (hb : w'.heap[mb]? = w.heap[mb]?) : MapL w' mb fs := by
  obtain ⟨D, ⟨es, clock, h1, h2⟩, h3⟩ := h
  exact ⟨D, ⟨es, clock, hb.trans h1, h2⟩, h3⟩
theorem wf_i64 {x : Int} (h : -9223372036854775808 ≤ x ∧ x ≤ 9223372036854775807) : (Lit.int .i64 x).wf = true := by
  have h1 : IntKind.i64.min = -9223372036854775808 := by decide
  have h2 : IntKind.i64.max = 9223372036854775807 := by decide
  simp [Lit.wf, h1, h2]; omega
set_option maxRecDepth 100000 in
theorem MapL.put {w : World} {mb : Nat} {fs : List Nat} (h : MapL w mb fs) {j : Nat} (hj : j ≤ 1048576) (hf : ∀ x ∈ fs, x < j) (hl : fs.length ≤ 1048576) :
    ∃ w', (Instr.mapUpdate 67 (.map (some mb)) (.int .i64 j) (.int .i64 ((fs.length + 1 : Nat) : Int))).run Try.prog w = .ok () w' ∧ MapL w' mb (fs ++ [j]) ∧ w.grownBy w' (some mb) := by
  obtain ⟨D, ho, hD⟩ := h
  obtain ⟨w', hr, h1, h2⟩ := ho.update (t := 67) intKeyed Try.underlying67 (by unfold maxLen; omega) (intKey hj) (plainElem_int Try.underlying3 (wf_i64 (x := ((fs.length + 1 : Nat) : Int)) (by omega)))
  refine ⟨w', hr, ⟨_, by rw [List.length_append]; exact h1, fun k hk => ?_⟩, h2⟩
  by_cases e : k = j
  · subst e
    rw [atKey_put_same ho.isMap (show WideAt.IsKeyLit (.int .i64 (k : Int)) from trivial), funNo_new fs 1 hf, Nat.add_comm 1]
  · rw [atKey_put_other (fun h => e (by injection h with _ h; omega)), hD k hk, funNo_other fs 1 e]
/-- A function in memory. -/
def kFn : Kd Fn := Kd.iso (Kd.pair Kd.string (Kd.pair (Kd.int .i64) (Kd.pair (Kd.int .i64) (Kd.pair Kd.bool (Kd.slice 42 kIns))))) (fun x : Fn => (x.name, (x.params : Int), x.slots, x.gen, x.code))
theorem kFn_mkF (W : World) (ok : Nat → Prop) (x : Fn) {A : Option Addr} {c : Nat} (l : x.code.length ≤ c) (g : Kd.F kIns W ok A x.code.length x.code) : Kd.FK kFn W ok x [.string x.name, .int .i64 x.params, .int .i64 x.slots, .bool x.gen, .slice A x.code.length c] := fun W2 hW =>
  ⟨[.string x.name], [.int .i64 x.params, .int .i64 x.slots, .bool x.gen, .slice A x.code.length c], rfl, rfl, [.int .i64 x.params], [.int .i64 x.slots, .bool x.gen, .slice A x.code.length c], rfl, rfl, [.int .i64 x.slots], [.bool x.gen, .slice A x.code.length c], rfl, rfl, [.bool x.gen], [.slice A x.code.length c], rfl, rfl, A, c, rfl, l, g W2 hW⟩
theorem kFn_open {w : World} {x : Fn} {cs : List Value} (h : kFn.K w x cs) : ∃ A c, cs = [.string x.name, .int .i64 x.params, .int .i64 x.slots, .bool x.gen, .slice A x.code.length c] ∧ x.code.length ≤ c ∧ kIns.C w A x.code.length x.code := by
  obtain ⟨_, _, rfl, rfl, _, _, rfl, rfl, _, _, rfl, rfl, _, _, rfl, rfl, A, c, rfl, l, h⟩ := h
  exact ⟨A, c, rfl, l, h⟩
theorem infoFun : (Try.prog.info? 40).map (fun i => (i.zero, i.size, i.bytes)) = some (some (.agg #[.string ⟨#[]⟩, .int .i64 0, .int .i64 0, .bool false, .slice none 0 0]), 5, 64) := by kernel_rfl
/-- A new maker. -/
theorem MS.new {W : World} {g cap b1 b2 mb : Nat} {okl : Nat → Prop} {l : List Nd} {spots : List Sp} {slots : List Int} {funs : Nat → Int} (hn : NR W okl g cap l) (hlo : ∀ k, okl k → k < W.heap.size) (h1 : W.heap[b1]? = some (.cells (spCells spots).toArray 85 (0, 0))) (h2 : W.heap[b2]? = some (.cells (slCells slots).toArray 3 (0, 0))) (hm : MapF W mb funs) (hmb : mb < W.heap.size) (hl : spots.length = l.length ∧ slots.length = l.length ∧ l.length ≤ 1048576) :
    MS ⟨W.heap.size, g, cap, b1, b2, mb, okl, l, spots, slots, funs⟩ (W.alloc (.cells #[.slice (some ⟨g, 0, none⟩) l.length cap, .slice (some ⟨b1, 0, none⟩) l.length l.length, .slice (some ⟨b2, 0, none⟩) l.length l.length, .map (some mb), .slice none 0 0, .slice none 0 0] 73)) (fun _ => False) [] ⟨[], []⟩ := by
  have hb := (Below.refl W.heap.size W).alloc (Nat.le_refl _) (.cells #[.slice (some ⟨g, 0, none⟩) l.length cap, .slice (some ⟨b1, 0, none⟩) l.length l.length, .slice (some ⟨b2, 0, none⟩) l.length l.length, .map (some mb), .slice none 0 0, .slice none 0 0] 73)
  have l1 := (Array.getElem?_eq_some_iff.1 h1).1
  have l2 := (Array.getElem?_eq_some_iff.1 h2).1
  exact ⟨fun _ => False, .slice none 0 0, fun _ => False, .slice none 0 0, fun _ => False, ⟨heap_alloc_new _ _, hn.below hb, (hb.block _ l1).trans h1, (hb.block _ l2).trans h2, hm.block (hb.block _ hmb), Kd.R_nil _ _ _ _ _, Kd.R_nil _ _ _ _ _, .nil, hl, fun _ q => q.elim, fun _ q => q.elim, fun _ q => q.elim, fun _ q => q.elim, fun k q => ⟨Nat.ne_of_lt (hlo k q), by have := hlo k q; simp; omega⟩, ⟨Nat.ne_of_gt l1, Nat.ne_of_gt l2, Nat.ne_of_gt hmb, by simp; omega⟩⟩⟩
/-- What Compile tells. -/
def CompR (w : World) (Fs : List Fn) (e : Ending) (w' : World) : Prop := ∃ v ok, e = .returned v ∧ Kd.N kFn 40 w' 0 ok v Fs ∧ (∀ k, ok k → w.heap.size ≤ k ∧ k < w'.heap.size) ∧ Below w.heap.size w w'
section
variable {w : World} {okl : Nat → Prop} {g cap : Nat} {l : List Nd} {m : Nat} {Fs : List Fn}
set_option maxHeartbeats 3200000 in
set_option maxRecDepth 100000 in
theorem compile_c (h : NR w okl g cap l) (hlo : ∀ k, okl k → k < w.heap.size) (hl : l.length ≤ 1048576) (hl0 : 0 < l.length) (hr : compileM m l = some Fs) :
    Calls Try.prog 11 #[.slice (some ⟨g, 0, none⟩) l.length cap] w (CompR w Fs) := by
  unfold compileM at hr
  obtain ⟨S, hS, hr⟩ := Option.bind_eq_some_iff.1 hr
  have HSP := hid (fun (w : World) (h : NR w okl g cap l) (hlo : ∀ k, okl k → k < w.heap.size) => spots_c h hlo hl hl0 hS)
  have HSL := hid (fun (w : World) (h : NR w okl g cap l) (hlo : ∀ k, okl k → k < w.heap.size) => slots_c h hlo hl hl0 hS)
  have HLN := hid (looked_lens hS)
  have H := hid h
  have HLO := hid hlo
  have HR := hid hr
  have hl2 : ((l.length : Int) == 0) = false := by rw [beq_eq_false_iff_ne]; omega
  have hl3 : (1 : Int) ≤ (l.length : Int) := by omega
  have HL := hid (And.intro hl hl0)
  have hmk := fun w : World => run_makeMap (P := Try.prog) 67 w
  clear h hlo hr hS hl hl0
  go_enter Try.func11, Try.ntmps11
  go_wp2_with fail
  refine (HSP.out _ H.out HLO.out).mono ?_
  rintro e w1 ⟨b1, rfl, hc1, hb1, hle1⟩
  have HC1 := hid hc1
  have HB1 := hid hb1
  have HL1 := hid hle1
  clear hc1 hb1 hle1
  go_wp2_with fail
  refine (HSL.out _ (H.out.below HB1.out) (fun k hk => Nat.lt_of_lt_of_le (HLO.out k hk) HB1.out.size)).mono ?_
  rintro e w2 ⟨b2, rfl, hc2, hb2, hle2⟩
  have HB2 := hid (HB1.out.trans (hb2.mono HB1.out.size))
  have HC1' := hid ((hb2.block _ (Array.getElem?_eq_some_iff.1 HC1.out).1).trans HC1.out)
  have HC2 := hid hc2
  have HL2 := hid (Nat.le_trans HB1.out.size hle2)
  clear hc2 hb2 hle2 HB1 HC1 HSP HSL
  go_upto_region 4 with fail
  clear hmk
  have hb3 := (Below.refl w2.heap.size w2).alloc (Nat.le_refl _) (.map #[] 0)
  have HM3 := hid (MapL.made w2)
  have HB3 := hid (HB2.out.trans (hb3.mono HB2.out.size))
  have HC1 := hid ((hb3.block _ (Array.getElem?_eq_some_iff.1 HC1'.out).1).trans HC1'.out)
  have HC2b := hid ((hb3.block _ (Array.getElem?_eq_some_iff.1 HC2.out).1).trans HC2.out)
  have HMB := hid (show w2.heap.size < (w2.alloc (.map #[] 0)).heap.size ∧ w.heap.size ≤ w2.heap.size ∧ b1 < w2.heap.size ∧ b2 < w2.heap.size from ⟨by simp, HB2.out.size, (Array.getElem?_eq_some_iff.1 HC1'.out).1, (Array.getElem?_eq_some_iff.1 HC2.out).1⟩)
  clear hb3 HB2 HC1' HC2
  generalize (w2.alloc (.map #[] 0)) = W3 at *
  obtain ⟨mb, hmb⟩ : ∃ mb, mb = w2.heap.size := ⟨_, rfl⟩
  rw [← hmb] at HM3 HMB ⊢
  clear hmb
  have e1 : IntKind.i64.wrap ((l.length : Int) - 1) = ((l.length - 1 : Nat) : Int) := by have := HL.out; rw [wrapI ⟨by omega, by omega⟩]; omega
  have hb4 := (Below.refl W3.heap.size W3).alloc (Nat.le_refl _) (.cells #[.int .i64 ((l.length - 1 : Nat) : Int)] 3)
  have hR0 : (Kd.int .i64).R 3 (W3.alloc (.cells #[.int .i64 ((l.length - 1 : Nat) : Int)] 3)) 0 (fun k => W3.heap.size ≤ k) (.slice (some ⟨W3.heap.size, 0, none⟩) 1 1) (ints [l.length - 1]) := by
    have ho := World.ownsRow_lit (base := 0) (e := 3) (size := 1) W3 #[.int .i64 ((l.length - 1 : Nat) : Int)] 1 (Nat.zero_le _) (by decide) rfl
    refine ⟨fun j hj => by have : W3.heap.size = j := by simpa [Value.ownBlock] using hj
                           omega, [.int .i64 ((l.length - 1 : Nat) : Int)], ho, rfl, fun i p hp => ?_⟩
    rcases i with _ | i
    · simp only [ints, List.map_cons, List.map_nil, List.getElem?_cons_zero, Option.some.injEq] at hp
      subst hp
      rfl
    · simp [ints] at hp
  have HRO := hid hR0
  have HM := hid (HM3.out.kp (hb4.block _ HMB.out.1))
  have HKP := hid (Kp.of_below (K := fun k => k = mb ∨ W3.heap.size ≤ k) hb4)
  have HG3 := hid (H.out.below HB3.out)
  clear hb4 hR0 HM3
  go_upto_region 5 with fail
  generalize (W3.alloc (.cells #[.int .i64 ((l.length - 1 : Nat) : Int)] 3)) = W4 at *
  clear e1
  go_wp2_with fail
  go_loopw [6, 28] (fun o x wx => ∃ (j : Nat) (fs : List Nat) (A : Option Addr) (c : Nat), j ≤ l.length ∧ x = .int .i64 j ∧ o = .slice A (fs.length + 1) c ∧ Box (fs = funsL (l.take j) 0) ∧ Box ((Kd.int .i64).R 3 wx 0 (fun k => W3.heap.size ≤ k) (.slice A (fs.length + 1) c) (ints ((l.length - 1) :: fs))) ∧ Box (MapL wx mb fs) ∧ Box (Kp (fun k => k = mb ∨ W3.heap.size ≤ k) W3 wx)) (fun _ x _ => l.length - (RowKit.intOf x).toNat)
  case atStart => exact ⟨0, [], _, _, Nat.zero_le _, rfl, rfl, hid (by simp [funsL]), HRO, HM, HKP⟩
  case round =>
    clear HRO HM HKP
    obtain ⟨j, fs, A, c, hj, rfl, rfl, HFS, HRO, HM, HKP⟩ := hrel
    have hNR : NR wr okl g cap l := Kd.N_kept HG3.out HKP.out.kept (fun k hk q => by have := HLO.out k hk; have := HMB.out; omega)
    have HNR := hid hNR
    have hfl : ∀ x ∈ fs, x < j := fun x hx => by
      rw [HFS.out] at hx
      have := funsL_lt _ _ x hx
      simp at this; omega
    have hfn : fs.length ≤ j := by
      rw [HFS.out]
      have : ∀ (l : List Nd) (i : Nat), (funsL l i).length ≤ l.length := fun l => by
        induction l with
        | nil => intro i; simp [funsL]
        | cons n l ih => intro i; unfold funsL; split <;> (have := ih (i + 1); simp; omega)
      have := this (l.take j) 0
      simp at this; omega
    have HFL := hid hfl
    clear hNR hfl
    rcases Nat.lt_or_ge j l.length with hlt | hge
    · obtain ⟨n, hn⟩ : ∃ n, l[j]? = some n := ⟨_, List.getElem?_eq_getElem hlt⟩
      obtain ⟨A3, c3, A4, c4, _, n0, n1, n2, n3, n4, n5, _⟩ := HNR.out.node hn
      have hlt' : (j : Int) < (l.length : Int) := by omega
      have hlb : (l.length : Int) ≤ 1048576 := by have := HL.out; omega
      have htk : l.take (j + 1) = l.take j ++ [n] := by
        rw [List.take_succ_eq_append_getElem hlt]
        rw [List.getElem?_eq_getElem hlt] at hn
        rw [Option.some.inj hn]
      have htl : (l.take j).length = j := by simp; omega
      have hsn : funsL (l.take (j + 1)) 0 = fs ++ (if n.kind = 10 then [j] else []) := by rw [htk, funsL_snoc, HFS.out, htl, Nat.zero_add]
      have HSN := hid hsn
      have hb := (Below.refl wr.heap.size wr).alloc (Nat.le_refl _) (.cells #[.int .i64 n.kind, .int .i64 n.num, .string n.text, .slice A3 n.names.length c3, .slice A4 n.kids.length c4, .int .i64 n.at_] 37)
      have HK2 := hid (HKP.out.below hb)
      have HM2 := hid (HM.out.kp (hb.block _ (by obtain ⟨D, ⟨es, clock, h1, _⟩, _⟩ := HM.out; exact (Array.getElem?_eq_some_iff.1 h1).1)))
      have HRO2 := hid (Kd.R_below HRO.out hb)
      have hk6 : (wr.alloc (.cells #[.int .i64 n.kind, .int .i64 n.num, .string n.text, .slice A3 n.names.length c3, .slice A4 n.kids.length c4, .int .i64 n.at_] 37)).cell? ⟨wr.heap.size, 0, none⟩ = some (.int .i64 n.kind) := (cell_of_row _ _ _ _ _ _ (heap_alloc_new _ _)).trans rfl
      have HK6 := hid hk6
      clear hn htk htl hsn hb hk6 HRO HM HKP
      go_upto_region 8 with fail
      clear n0 n1 n2 n3 n4 n5
      generalize (wr.alloc (.cells #[.int .i64 n.kind, .int .i64 n.num, .string n.text, .slice A3 n.names.length c3, .slice A4 n.kids.length c4, .int .i64 n.at_] 37)) = V at *
      have m0 := HK6.out
      by_cases h10 : n.kind = 10
      · have t10 : (n.kind == (10 : Int)) = true := by simp [h10]
        have hs := HSN.out
        rw [if_pos h10] at hs
        obtain ⟨V2, hput, hm2, hg2⟩ := HM2.out.put (j := j) (by have := HL.out; omega) HFL.out (by have := HL.out; omega)
        have HS2 := hid hs
        have HM4 := hid hm2
        have HG2 := hid hg2
        have hmo : ∀ k, W3.heap.size ≤ k → some k ≠ some mb := fun k q e => by injection e with e; have := HMB.out.1; omega
        have HRO3 := hid (Kd.R_grown HRO2.out hg2 (fun k q => hmo k q))
        have hfs1 : (fs.length : Int) + 1 ≤ 1048577 := by have := HL.out; omega
        rw [show ((fs.length + 1 : Nat) : Int) = (fs.length : Int) + 1 by omega] at hput
        have HV := hid (show W3.heap.size ≤ V2.heap.size from Nat.le_trans HK2.out.size hg2.size)
        clear hs hm2 hg2 h10 HM2
        go_wp2_with (at_builtin; refine Kd.R_append (Kd.int .i64) (w0 := V2) 0 rfl _ _ 35 3 (.int .i64 0) 8 rfl Try.underlying35 infoInt8 rfl (by decide) (by decide) (.slice A (fs.length + 1) c) (ints ((l.length - 1) :: fs)) (j : Int) [.int .i64 j] (fun k => W3.heap.size ≤ k) (fun _ => False) ?c1 ?c2 rfl (fun _ hk => hk.elim) (fun k hk => Nat.le_trans HV.out hk) HRO3.out (Below.refl _ _) (Nat.zero_le _) (by rw [ints_length]; simp; omega) ?_; (case c1 => rfl); (case c2 => rfl); intro v1 w1 hR1 _ hg1 _; rw [show ints ((l.length - 1) :: fs) ++ [(j : Int)] = ints ((l.length - 1) :: (fs ++ [j])) by simp [ints]] at hR1; obtain ⟨A1, cap1, e1⟩ := Kd.R_slice hR1; rw [show (ints ((l.length - 1) :: (fs ++ [j]))).length = (fs ++ [j]).length + 1 by rw [ints_length]; rfl] at e1; subst e1; have HR1 := hid hR1; have HG1 := hid hg1; clear hR1 hg1)
        go_roundw
        case rel =>
          refine ⟨j + 1, fs ++ [j], A1, cap1, by omega, by go_num, by rw [List.length_append]; rfl, hid HS2.out.symm, HR1, hid (HM4.out.kp (HG1.out.block _ (by obtain ⟨D, ⟨es, clock, h1, _⟩, _⟩ := HM4.out; exact (Array.getElem?_eq_some_iff.1 h1).1) (fun e => by have := HRO3.out.1 _ e.symm; have := HMB.out.1; omega))), hid ?_⟩
          exact ((HK2.out.trans (Kp.grown (K := fun k => k = mb ∨ W3.heap.size ≤ k) HG2.out (fun k e => .inl (by injection e with e; exact e.symm))) (fun _ q => .inl q)).trans (Kp.grown (K := fun k => k = mb ∨ W3.heap.size ≤ k) HG1.out (fun k e => .inr (HRO3.out.1 k e))) (fun _ q => .inl q))
        case measure => simp [RowKit.intOf]; omega
      · have t10 : (n.kind == (10 : Int)) = false := by simp [h10]
        have hs := HSN.out
        rw [if_neg h10, List.append_nil] at hs
        have HS2 := hid hs
        clear hs h10
        go_wp2_with fail
        go_roundw
        case rel => exact ⟨j + 1, fs, A, c, by omega, by go_num, rfl, hid HS2.out.symm, HRO2, HM2, HK2⟩
        case measure => simp [RowKit.intOf]; omega
    · obtain rfl : j = l.length := by omega
      have hf := HFS.out
      rw [List.take_length] at hf
      have HF := hid hf
      have HNL := hid (show ∀ k, okl k → k < wr.heap.size from fun k hk => by have := HLO.out k hk; have := HMB.out; have := HKP.out.size; omega)
      have HCa := hid (HKP.out.heap HC1.out (fun q => by have := HMB.out; omega))
      have HCb := hid (HKP.out.heap HC2b.out (fun q => by have := HMB.out; omega))
      have HBw := hid (show Below w.heap.size w wr from ⟨HKP.out.os.trans HB3.out.os, HKP.out.tape.trans HB3.out.tape, HKP.out.output.trans HB3.out.output, Nat.le_trans HB3.out.size HKP.out.size, fun k hk => (HKP.out.block k (by have := HMB.out; omega) (fun q => by have := HMB.out; omega)).trans (HB3.out.block k hk)⟩)
      have HMW := hid (show mb < wr.heap.size from Nat.lt_of_lt_of_le HMB.out.1 HKP.out.size)
      clear hf HFS HFL hfn
      go_wp2_with fail
      obtain ⟨W5, hW5⟩ : ∃ W5 : World, W5 = wr := ⟨_, rfl⟩
      rw [← hW5] at HNL HCa HCb HBw HMW HM HRO HNR ⊢
      clear HKP
      have hos : Box (fnsM (fnM l S.spots S.slots (fun k => funNo fs k 1) m) ((l.length - 1) :: fs) [] = some Fs) := hid (by rw [HF.out]; exact HR.out)
      have HROX := HRO
      have HNX := hid (Kd.N_nil kFn 40 W5 0 (fun k => W5.heap.size ≤ k))
      have HB5 := hid (Below.refl W5.heap.size W5)
      obtain ⟨os, hoseq⟩ : ∃ os, os = (l.length - 1) :: fs := ⟨_, rfl⟩
      rw [← hoseq] at hos HROX
      have hosl : fs.length + 1 = os.length := by rw [hoseq]; rfl
      have hosm : os.length ≤ 9223372036854775807 := by
        have := Kd.C_max (Kd.R_reads' HROX.out).2.2
        rw [ints_length] at this
        exact this
      have HOE := hid hosl
      clear hoseq hosl hW5 HRO HR HF
      go_loopw [9, 47] (fun v x wx => ∃ (j : Nat) (outs : List Fn), j ≤ os.length ∧ x = .int .i64 j ∧ Box (Kd.N kFn 40 wx 0 (fun k => W5.heap.size ≤ k) v outs) ∧ Box (fnsM (fnM l S.spots S.slots (fun k => funNo fs k 1) m) (os.drop j) outs = some Fs) ∧ Box (Below W5.heap.size W5 wx)) (fun _ x _ => os.length - (RowKit.intOf x).toNat)
      case atStart => exact ⟨0, [], Nat.zero_le _, rfl, HNX, hos, HB5⟩
      case round =>
        clear HNX hos HB5
        obtain ⟨j, outs, hj, rfl, HNX, HFN, HB5⟩ := hrel
        obtain ⟨A9, c9, e9⟩ := Kd.N_slice HNX.out
        subst e9
        rcases Nat.lt_or_ge j os.length with hlt | hge
        · have hlt' : (j : Int) < (fs.length : Int) + 1 := by have := HOE.out; omega
          have hosm' : (fs.length : Int) + 1 ≤ 9223372036854775807 := by have := HOE.out; omega
          have hrd := Kd.R_reads' HROX.out
          obtain ⟨ad, hA, hc⟩ := Kd.at_int (Kd.C_below hrd.2.2 HB5.out) (j : Int) (by omega) (by rw [ints_length]; omega)
          subst hA
          have hx : rd (ints os) (j : Int) = (os[j] : Int) := by unfold rd ints; simp [hlt]
          rw [hx, Int.toNat_natCast] at hc
          have hr := HFN.out
          rw [List.drop_eq_getElem_cons hlt] at hr
          unfold fnsM at hr
          obtain ⟨fx, hfx, hr⟩ := Option.bind_eq_some_iff.1 hr
          split at hr
          · rename_i hol
            unfold fnM at hfx
            generalize os[j] = k at hc hfx
            obtain ⟨n, hn, hfx⟩ := Option.bind_eq_some_iff.1 hfx
            obtain ⟨T1, t1, hfx⟩ := Option.bind_eq_some_iff.1 hfx
            obtain ⟨T2, t2, hfx⟩ := Option.bind_eq_some_iff.1 hfx
            obtain ⟨T3, t3, hfx⟩ := Option.bind_eq_some_iff.1 hfx
            obtain ⟨T4, t4, hfx⟩ := Option.bind_eq_some_iff.1 hfx
            obtain ⟨x, hxs, rfl⟩ := Option.map_eq_some_iff.1 hfx
            have HT1 := hid t1
            have HT2 := hid t2
            have HT3 := hid t3
            have HT4 := hid t4
            have HXS := hid hxs
            have hxl := (List.getElem?_eq_some_iff.1 hxs).1
            have hkl := (List.getElem?_eq_some_iff.1 hn).1
            have hkl' : (k : Int) < (l.length : Int) := by omega
            have HR2 := hid hr
            have HOL := hid hol
            have hNR : NR wr okl g cap l := HNR.out.below HB5.out
            obtain ⟨A3, c3, A4, c4, _, n0, n1, n2, n3, n4, n5, l3, f3, l4, f4⟩ := hNR.node hn
            have hbA := (Below.refl wr.heap.size wr).alloc (Nat.le_refl _) (.cells #[.int .i64 n.kind, .int .i64 n.num, .string n.text, .slice A3 n.names.length c3, .slice A4 n.kids.length c4, .int .i64 n.at_] 37)
            have HV1 := hid (hNR.below hbA)
            have HNLv := hid (show ∀ k, okl k → k < (wr.alloc (.cells #[.int .i64 n.kind, .int .i64 n.num, .string n.text, .slice A3 n.names.length c3, .slice A4 n.kids.length c4, .int .i64 n.at_] 37)).heap.size from fun k hk => by have := HNL.out k hk; have := HB5.out.size; simp; omega)
            have HCav := hid ((hbA.block _ (by have := HMB.out; have := HB5.out.size; have := HMW.out; omega)).trans ((HB5.out.block _ (by have := HMB.out; have := HMW.out; omega)).trans HCa.out))
            have HCbv := hid ((hbA.block _ (by have := HMB.out; have := HB5.out.size; have := HMW.out; omega)).trans ((HB5.out.block _ (by have := HMB.out; have := HMW.out; omega)).trans HCb.out))
            have HMv := hid ((HM.out.kp (w' := wr.alloc (.cells #[.int .i64 n.kind, .int .i64 n.num, .string n.text, .slice A3 n.names.length c3, .slice A4 n.kids.length c4, .int .i64 n.at_] 37)) ((hbA.block _ (by have := HB5.out.size; have := HMW.out; omega)).trans (HB5.out.block _ HMW.out))).mapF)
            have HMWv := hid (show mb < (wr.alloc (.cells #[.int .i64 n.kind, .int .i64 n.num, .string n.text, .slice A3 n.names.length c3, .slice A4 n.kids.length c4, .int .i64 n.at_] 37)).heap.size by have := HB5.out.size; have := HMW.out; simp; omega)
            have HNXv := hid (Kd.N_below (Kd.N_bound HNX.out) hbA)
            have HBA := hid hbA
            have NB0 := hid (show (wr.alloc (.cells #[.int .i64 n.kind, .int .i64 n.num, .string n.text, .slice A3 n.names.length c3, .slice A4 n.kids.length c4, .int .i64 n.at_] 37)).heap[wr.heap.size]? = some (.cells (ndCs n A3 c3 A4 c4) 37 (0, 0)) ∧ n.names.length ≤ c3 ∧ Kd.F Kd.string (wr.alloc (.cells #[.int .i64 n.kind, .int .i64 n.num, .string n.text, .slice A3 n.names.length c3, .slice A4 n.kids.length c4, .int .i64 n.at_] 37)) okl A3 n.names.length n.names ∧ n.kids.length ≤ c4 ∧ Kd.F (Kd.int .i64) (wr.alloc (.cells #[.int .i64 n.kind, .int .i64 n.num, .string n.text, .slice A3 n.names.length c3, .slice A4 n.kids.length c4, .int .i64 n.at_] 37)) okl A4 n.kids.length (ints n.kids) from ⟨heap_alloc_new _ _, l3, Kd.F_below f3 hbA, l4, Kd.F_below f4 hbA⟩)
            clear hfx hr t1 t2 t3 t4 hxs hn hNR hbA hrd hx hol l3 f3 l4 f4
            go_upto_region 17 with fail
            clear n0 n1 n2 n3 n4 n5 hc
            have HVS := hid (show wr.heap.size < (wr.alloc (.cells #[.int .i64 n.kind, .int .i64 n.num, .string n.text, .slice A3 n.names.length c3, .slice A4 n.kids.length c4, .int .i64 n.at_] 37)).heap.size by simp)
            generalize (wr.alloc (.cells #[.int .i64 n.kind, .int .i64 n.num, .string n.text, .slice A3 n.names.length c3, .slice A4 n.kids.length c4, .int .i64 n.at_] 37)) = V1 at *
            have hMS := MS.new HV1.out HNLv.out HCav.out HCbv.out HMv.out HMWv.out ⟨HLN.out.1, HLN.out.2, HL.out.1⟩
            obtain ⟨a, ha⟩ : ∃ a, a = V1.heap.size := ⟨_, rfl⟩
            have hbB := (Below.refl V1.heap.size V1).alloc (Nat.le_refl _) (.cells #[.slice (some ⟨g, 0, none⟩) l.length cap, .slice (some ⟨b1, 0, none⟩) l.length l.length, .slice (some ⟨b2, 0, none⟩) l.length l.length, .map (some mb), .slice none 0 0, .slice none 0 0] 73)
            have HS0 := hid hMS
            have NB := hid (show NBx ⟨V1.heap.size, g, cap, b1, b2, mb, okl, l, S.spots, S.slots, fun k => funNo fs k 1⟩ (V1.alloc (.cells #[.slice (some ⟨g, 0, none⟩) l.length cap, .slice (some ⟨b1, 0, none⟩) l.length l.length, .slice (some ⟨b2, 0, none⟩) l.length l.length, .map (some mb), .slice none 0 0, .slice none 0 0] 73)) wr.heap.size n A3 c3 A4 c4 from ⟨(hbB.block _ HVS.out).trans NB0.out.1, NB0.out.2.1, Kd.F_below NB0.out.2.2.1 hbB, NB0.out.2.2.2.1, Kd.F_below NB0.out.2.2.2.2 hbB⟩)
            have HX := hid hMS.same
            have HN0 := hid (show ¬ MK ⟨V1.heap.size, g, cap, b1, b2, mb, okl, l, S.spots, S.slots, fun k => funNo fs k 1⟩ (fun _ => False) wr.heap.size from fun q => q.elim (fun e => by have := HVS.out; have e : wr.heap.size = V1.heap.size := e; omega) id)
            have HBB := hid hbB
            have HV2S := hid (show V1.heap.size < (V1.alloc (.cells #[.slice (some ⟨g, 0, none⟩) l.length cap, .slice (some ⟨b1, 0, none⟩) l.length l.length, .slice (some ⟨b2, 0, none⟩) l.length l.length, .map (some mb), .slice none 0 0, .slice none 0 0] 73)).heap.size by simp)
            clear hMS hbB HV1 HNLv HMv HMWv NB0 HCav
            go_upto_region 18 with fail
            generalize (V1.alloc (.cells #[.slice (some ⟨g, 0, none⟩) l.length cap, .slice (some ⟨b1, 0, none⟩) l.length l.length, .slice (some ⟨b2, 0, none⟩) l.length l.length, .map (some mb), .slice none 0 0, .slice none 0 0] 73)) = V2 at *
            rw [← ha] at HS0 NB HX HN0 HV2S ⊢
            have HAV := hid ha
            clear ha
            obtain ⟨F1, h1, k1, s1⟩ := id HX.out
            have b1 := NB.out.at HS0.out HN0.out k1
            have m4 := b1.m4
            have hc := begin_c (c := c4) h1 HT1.out b1.f4
            unfold ptr at hc
            dsimp only at hc
            have HC := hid hc
            have K := hid k1
            have SS := hid s1
            clear hc h1 k1 s1 b1 HX
            go_wp2_with fail
            refine HC.out.mono ?_
            rintro e w1 ⟨rfl, hN⟩
            have HX := hid (MN.of K.out SS.out hN)
            clear hN HC K SS
            clear m4
            obtain ⟨F2, h2, k2, s2⟩ := id HX.out
            have b2 := NB.out.at HS0.out HN0.out k2
            have m4 := b2.m4
            have hc := mall_c (c := c4) (nodeOk _ m) h2 HT2.out b2.f4
            unfold ptr at hc
            dsimp only at hc
            have HC := hid hc
            have K := hid k2
            have SS := hid s2
            clear hc h2 k2 s2 b2 HX
            go_wp2_with fail
            refine HC.out.mono ?_
            rintro e w2 ⟨rfl, hN⟩
            have HX := hid (MN.of K.out SS.out hN)
            clear hN HC K SS
            clear m4
            obtain ⟨F3, h3, k3, s3⟩ := id HX.out
            have b3 := NB.out.at HS0.out HN0.out k3
            have hc := mput_c h3 HT3.out
            unfold ptr at hc
            dsimp only at hc
            have HC := hid hc
            have K := hid k3
            have SS := hid s3
            clear hc h3 k3 s3 b3 HX
            go_wp2_with fail
            refine HC.out.mono ?_
            rintro e w3 ⟨rfl, hN⟩
            have HX := hid (MN.of K.out SS.out hN)
            clear hN HC K SS
            obtain ⟨F4, h4, k4, s4⟩ := id HX.out
            have b4 := NB.out.at HS0.out HN0.out k4
            have hc := mput_c h4 HT4.out
            unfold ptr at hc
            dsimp only at hc
            have HC := hid hc
            have K := hid k4
            have SS := hid s4
            clear hc h4 k4 s4 b4 HX
            go_wp2_with fail
            refine HC.out.mono ?_
            rintro e w4 ⟨rfl, hN⟩
            have HX := hid (MN.of K.out SS.out hN)
            clear hN HC K SS
            obtain ⟨F5, ⟨oc, cv, oo, ov, f, h5⟩, k5, s5⟩ := id HX.out
            have b5 := NB.out.at HS0.out HN0.out k5
            have m1 := b5.m1
            have m2 := b5.m2
            have m3 := b5.m3
            obtain ⟨Ac, cc, ec⟩ := Kd.R_slice h5.code
            subst ec
            have ac : w4.cell? ⟨a, 4, none⟩ = some (.slice Ac T4.code.length cc) := (cell_of_row _ _ _ _ _ _ h5.cell).trans rfl
            have hab2 : b2 < a := by have := HMB.out; have := HMW.out; have := HB5.out.size; have := HVS.out; have := HAV.out; omega
            have hwa : wr.heap.size < a := by have := HVS.out; have := HAV.out; omega
            have sl := (cell_of_row _ _ k _ _ _ (k5.heap ((HBB.out.block _ (Array.getElem?_eq_some_iff.1 HCbv.out).1).trans HCbv.out) (fun q => q.elim (fun e => by have e : b2 = a := e; omega) id))).trans (c := some (Value.int .i64 x)) (by simp [slCells, HXS.out])
            have hN5 : Kd.N kFn 40 w4 0 (fun j => W5.heap.size ≤ j ∧ j < wr.heap.size) (.slice A9 outs.length c9) outs := Kd.N_kept (Kd.N_below HNXv.out HBB.out) k5.kept (fun j q e => e.elim (fun e => by have e : j = a := e; omega) id)
            have hF5 : ∀ j, oc j → V2.heap.size ≤ j := fun j q => (s5 j (h5.fc j q).1).elim (fun q => q.elim) id
            have hcl : T4.code.length ≤ cc := (Kd.R_reads' h5.code).2.1
            have hfk := kFn_mkF _ oc ⟨n.text, n.names.length, x, decide (n.num = 1), T4.code⟩ hcl (Kd.N_F (Kd.R_N h5.code))
            dsimp only at hfk
            have HFK := hid hfk
            have HN5 := hid hN5
            have HOC := hid hF5
            have K5 := hid k5
            have LT := hid (show wr.heap.size < V2.heap.size ∧ W5.heap.size ≤ wr.heap.size by have := HV2S.out; have := HB5.out.size; omega)
            have N9 := hid (show ∀ b, wr.heap.size ≤ b → (Value.slice A9 outs.length c9).ownBlock ≠ some b from fun b q e => by have := (hN5.1 _ e).2; omega)
            have HAB := hid (And.intro hab2 hwa)
            have N9b := hid (show (Value.slice A9 outs.length c9).ownBlock ≠ some b2 from fun e => by have := (hN5.1 _ e).1; have := HMB.out; have := HMW.out; omega)
            have HFr := hid (show ∀ j, w4.heap.size ≤ j → W5.heap.size ≤ j from fun j q => by have := k5.size; have := LT.out; omega)
            clear h5 k5 s5 b5 hfk hN5 hF5 hcl hab2 hwa HX
            go_upto_region 22 with fail
            refine wp_region_until [21] (S := (fun w' => w'.cell? ⟨wr.heap.size, 1, none⟩ = some (.int .i64 n.num) ∧ w'.cell? ⟨wr.heap.size, 2, none⟩ = some (.string n.text) ∧ w'.cell? ⟨wr.heap.size, 3, none⟩ = some (.slice A3 n.names.length c3) ∧ w'.cell? ⟨b2, k, none⟩ = some (.int .i64 x) ∧ w'.cell? ⟨a, 4, none⟩ = some (.slice Ac T4.code.length cc))) (by kernel_rfl) ?_ ?_
            · go_keep
            intro hS
            refine wpAnyU_take (i := 0) (v := (.slice A9 outs.length c9)) rfl (by kernel_rfl) (fun _ _ _ h => h) (leads_of [[21]] (by kernel_rfl)) (by kernel_rfl) (by kernel_rfl) (by kernel_rfl) (Or.inl ⟨by rfl, ?_⟩) hS ?_
            · intro w' hS'
              obtain ⟨s0, s1, s2, s3, s4⟩ := hS'
              go_simp
            change wpAnyU _ _ _ _ _ _ _ _ (Act.put _ (some 73) _) _
            simp only [Act.put, List.setIfInBounds_toArray, List.set_cons_succ, List.set_cons_zero]
            refine wpAnyU_take (i := 1) (v := (.pointer (some ⟨wr.heap.size, 2, none⟩))) rfl (by kernel_rfl) (fun _ _ _ h => h) (leads_of [[21]] (by kernel_rfl)) (by kernel_rfl) (by kernel_rfl) (by kernel_rfl) (Or.inl ⟨by rfl, ?_⟩) hS ?_
            · intro w' hS'
              obtain ⟨s0, s1, s2, s3, s4⟩ := hS'
              go_simp
            change wpAnyU _ _ _ _ _ _ _ _ (Act.put _ (some 74) _) _
            simp only [Act.put, List.setIfInBounds_toArray, List.set_cons_succ, List.set_cons_zero]
            refine wpAnyU_take (i := 2) (v := (.string n.text)) rfl (by kernel_rfl) (fun _ _ _ h => h) (leads_of [[21]] (by kernel_rfl)) (by kernel_rfl) (by kernel_rfl) (by kernel_rfl) (Or.inl ⟨by rfl, ?_⟩) hS ?_
            · intro w' hS'
              obtain ⟨s0, s1, s2, s3, s4⟩ := hS'
              go_simp
            change wpAnyU _ _ _ _ _ _ _ _ (Act.put _ (some 75) _) _
            simp only [Act.put, List.setIfInBounds_toArray, List.set_cons_succ, List.set_cons_zero]
            refine wpAnyU_take (i := 3) (v := (.pointer (some ⟨wr.heap.size, 3, none⟩))) rfl (by kernel_rfl) (fun _ _ _ h => h) (leads_of [[21]] (by kernel_rfl)) (by kernel_rfl) (by kernel_rfl) (by kernel_rfl) (Or.inl ⟨by rfl, ?_⟩) hS ?_
            · intro w' hS'
              obtain ⟨s0, s1, s2, s3, s4⟩ := hS'
              go_simp
            change wpAnyU _ _ _ _ _ _ _ _ (Act.put _ (some 76) _) _
            simp only [Act.put, List.setIfInBounds_toArray, List.set_cons_succ, List.set_cons_zero]
            refine wpAnyU_take (i := 4) (v := (.slice A3 n.names.length c3)) rfl (by kernel_rfl) (fun _ _ _ h => h) (leads_of [[21]] (by kernel_rfl)) (by kernel_rfl) (by kernel_rfl) (by kernel_rfl) (Or.inl ⟨by rfl, ?_⟩) hS ?_
            · intro w' hS'
              obtain ⟨s0, s1, s2, s3, s4⟩ := hS'
              go_simp
            change wpAnyU _ _ _ _ _ _ _ _ (Act.put _ (some 77) _) _
            simp only [Act.put, List.setIfInBounds_toArray, List.set_cons_succ, List.set_cons_zero]
            refine wpAnyU_take (i := 5) (v := (.int .i64 (n.names.length : Nat))) rfl (by kernel_rfl) (fun _ _ _ h => h) (leads_of [[21]] (by kernel_rfl)) (by kernel_rfl) (by kernel_rfl) (by kernel_rfl) (Or.inl ⟨by rfl, ?_⟩) hS ?_
            · intro w' hS'
              obtain ⟨s0, s1, s2, s3, s4⟩ := hS'
              go_simp
            change wpAnyU _ _ _ _ _ _ _ _ (Act.put _ (some 78) _) _
            simp only [Act.put, List.setIfInBounds_toArray, List.set_cons_succ, List.set_cons_zero]
            refine wpAnyU_take (i := 6) (v := (.slice (some ⟨b2, 0, none⟩) l.length l.length)) rfl (by kernel_rfl) (fun _ _ _ h => h) (leads_of [[21]] (by kernel_rfl)) (by kernel_rfl) (by kernel_rfl) (by kernel_rfl) (Or.inl ⟨by rfl, ?_⟩) hS ?_
            · intro w' hS'
              obtain ⟨s0, s1, s2, s3, s4⟩ := hS'
              go_simp
            change wpAnyU _ _ _ _ _ _ _ _ (Act.put _ (some 79) _) _
            simp only [Act.put, List.setIfInBounds_toArray, List.set_cons_succ, List.set_cons_zero]
            refine wpAnyU_take (i := 7) (v := (.int .i64 (k : Nat))) rfl (by kernel_rfl) (fun _ _ _ h => h) (leads_of [[21]] (by kernel_rfl)) (by kernel_rfl) (by kernel_rfl) (by kernel_rfl) (Or.inl ⟨by rfl, ?_⟩) hS ?_
            · intro w' hS'
              obtain ⟨s0, s1, s2, s3, s4⟩ := hS'
              go_simp
            change wpAnyU _ _ _ _ _ _ _ _ (Act.put _ (some 80) _) _
            simp only [Act.put, List.setIfInBounds_toArray, List.set_cons_succ, List.set_cons_zero]
            refine wpAnyU_take (i := 8) (v := (.pointer (some ⟨b2, k, none⟩))) rfl (by kernel_rfl) (fun _ _ _ h => h) (leads_of [[21]] (by kernel_rfl)) (by kernel_rfl) (by kernel_rfl) (by kernel_rfl) (Or.inl ⟨by rfl, ?_⟩) hS ?_
            · intro w' hS'
              obtain ⟨s0, s1, s2, s3, s4⟩ := hS'
              go_simp
            change wpAnyU _ _ _ _ _ _ _ _ (Act.put _ (some 81) _) _
            simp only [Act.put, List.setIfInBounds_toArray, List.set_cons_succ, List.set_cons_zero]
            refine wpAnyU_take (i := 9) (v := (.int .i64 x)) rfl (by kernel_rfl) (fun _ _ _ h => h) (leads_of [[21]] (by kernel_rfl)) (by kernel_rfl) (by kernel_rfl) (by kernel_rfl) (Or.inl ⟨by rfl, ?_⟩) hS ?_
            · intro w' hS'
              obtain ⟨s0, s1, s2, s3, s4⟩ := hS'
              go_simp
            change wpAnyU _ _ _ _ _ _ _ _ (Act.put _ (some 82) _) _
            simp only [Act.put, List.setIfInBounds_toArray, List.set_cons_succ, List.set_cons_zero]
            refine wpAnyU_take (i := 10) (v := (.pointer (some ⟨wr.heap.size, 1, none⟩))) rfl (by kernel_rfl) (fun _ _ _ h => h) (leads_of [[21]] (by kernel_rfl)) (by kernel_rfl) (by kernel_rfl) (by kernel_rfl) (Or.inl ⟨by rfl, ?_⟩) hS ?_
            · intro w' hS'
              obtain ⟨s0, s1, s2, s3, s4⟩ := hS'
              go_simp
            change wpAnyU _ _ _ _ _ _ _ _ (Act.put _ (some 83) _) _
            simp only [Act.put, List.setIfInBounds_toArray, List.set_cons_succ, List.set_cons_zero]
            refine wpAnyU_take (i := 11) (v := (.int .i64 n.num)) rfl (by kernel_rfl) (fun _ _ _ h => h) (leads_of [[21]] (by kernel_rfl)) (by kernel_rfl) (by kernel_rfl) (by kernel_rfl) (Or.inl ⟨by rfl, ?_⟩) hS ?_
            · intro w' hS'
              obtain ⟨s0, s1, s2, s3, s4⟩ := hS'
              go_simp
            change wpAnyU _ _ _ _ _ _ _ _ (Act.put _ (some 84) _) _
            simp only [Act.put, List.setIfInBounds_toArray, List.set_cons_succ, List.set_cons_zero]
            refine wpAnyU_take (i := 12) (v := (.bool (n.num == 1))) rfl (by kernel_rfl) (fun _ _ _ h => h) (leads_of [[21]] (by kernel_rfl)) (by kernel_rfl) (by kernel_rfl) (by kernel_rfl) (Or.inl ⟨by rfl, ?_⟩) hS ?_
            · intro w' hS'
              obtain ⟨s0, s1, s2, s3, s4⟩ := hS'
              go_simp
            change wpAnyU _ _ _ _ _ _ _ _ (Act.put _ (some 85) _) _
            simp only [Act.put, List.setIfInBounds_toArray, List.set_cons_succ, List.set_cons_zero]
            refine wpAnyU_take (i := 13) (v := (.pointer (some ⟨a, 0, none⟩))) rfl (by kernel_rfl) (fun _ _ _ h => h) (leads_of [[21]] (by kernel_rfl)) (by kernel_rfl) (by kernel_rfl) (by kernel_rfl) (Or.inl ⟨by rfl, ?_⟩) hS ?_
            · intro w' hS'
              obtain ⟨s0, s1, s2, s3, s4⟩ := hS'
              go_simp
            change wpAnyU _ _ _ _ _ _ _ _ (Act.put _ (some 86) _) _
            simp only [Act.put, List.setIfInBounds_toArray, List.set_cons_succ, List.set_cons_zero]
            refine wpAnyU_take (i := 14) (v := (.pointer (some ⟨a, 0, none⟩))) rfl (by kernel_rfl) (fun _ _ _ h => h) (leads_of [[21]] (by kernel_rfl)) (by kernel_rfl) (by kernel_rfl) (by kernel_rfl) (Or.inl ⟨by rfl, ?_⟩) hS ?_
            · intro w' hS'
              obtain ⟨s0, s1, s2, s3, s4⟩ := hS'
              go_simp
            change wpAnyU _ _ _ _ _ _ _ _ (Act.put _ (some 87) _) _
            simp only [Act.put, List.setIfInBounds_toArray, List.set_cons_succ, List.set_cons_zero]
            refine wpAnyU_take (i := 15) (v := (.pointer (some ⟨a, 4, none⟩))) rfl (by kernel_rfl) (fun _ _ _ h => h) (leads_of [[21]] (by kernel_rfl)) (by kernel_rfl) (by kernel_rfl) (by kernel_rfl) (Or.inl ⟨by rfl, ?_⟩) hS ?_
            · intro w' hS'
              obtain ⟨s0, s1, s2, s3, s4⟩ := hS'
              go_simp
            change wpAnyU _ _ _ _ _ _ _ _ (Act.put _ (some 88) _) _
            simp only [Act.put, List.setIfInBounds_toArray, List.set_cons_succ, List.set_cons_zero]
            refine wpAnyU_take (i := 16) (v := (.pointer (some ⟨a, 4, none⟩))) rfl (by kernel_rfl) (fun _ _ _ h => h) (leads_of [[21]] (by kernel_rfl)) (by kernel_rfl) (by kernel_rfl) (by kernel_rfl) (Or.inl ⟨by rfl, ?_⟩) hS ?_
            · intro w' hS'
              obtain ⟨s0, s1, s2, s3, s4⟩ := hS'
              go_simp
            change wpAnyU _ _ _ _ _ _ _ _ (Act.put _ (some 89) _) _
            simp only [Act.put, List.setIfInBounds_toArray, List.set_cons_succ, List.set_cons_zero]
            refine wpAnyU_take (i := 17) (v := (.slice Ac T4.code.length cc)) rfl (by kernel_rfl) (fun _ _ _ h => h) (leads_of [[21]] (by kernel_rfl)) (by kernel_rfl) (by kernel_rfl) (by kernel_rfl) (Or.inl ⟨by rfl, ?_⟩) hS ?_
            · intro w' hS'
              obtain ⟨s0, s1, s2, s3, s4⟩ := hS'
              go_simp
            change wpAnyU _ _ _ _ _ _ _ _ (Act.put _ (some 90) _) _
            simp only [Act.put, List.setIfInBounds_toArray, List.set_cons_succ, List.set_cons_zero]
            refine wpAnyU_take (i := 18) (v := (.agg #[.string n.text, .int .i64 n.names.length, .int .i64 x, .bool (n.num == 1), .slice Ac T4.code.length cc])) rfl (by kernel_rfl) (fun _ _ _ h => h) (leads_of [[21]] (by kernel_rfl)) (by kernel_rfl) (by kernel_rfl) (by kernel_rfl) (Or.inl ⟨by rfl, ?_⟩) hS ?_
            · intro w' hS'
              obtain ⟨s0, s1, s2, s3, s4⟩ := hS'
              go_simp
            change wpAnyU _ _ _ _ _ _ _ _ (Act.put _ (some 91) _) _
            simp only [Act.put, List.setIfInBounds_toArray, List.set_cons_succ, List.set_cons_zero]
            refine wpAnyU_all (rs := [19]) (by kernel_rfl) (by simp) ?_
            intro j hj
            obtain rfl := List.mem_singleton.1 hj
            clear hj
            refine wpOp_shut rfl (fun K' HK => ?_)
            go_simp
            have HB19 := hid (below_alloc (Below.refl w4.drew.heap.size w4.drew) (.cells #[.string n.text, .int .i64 n.names.length, .int .i64 x, .bool (n.num == 1), .slice Ac T4.code.length cc] 40))
            refine HK.out _ _ ⟨.inr ?_, ?_⟩
            · exact ⟨keepc HB19.out m1, keepc HB19.out m2, keepc HB19.out m3, keepc HB19.out sl, keepc HB19.out ac⟩
            clear HK K'
            have hS := And.intro (keepc HB19.out m1) (And.intro (keepc HB19.out m2) (And.intro (keepc HB19.out m3) (And.intro (keepc HB19.out sl) (keepc HB19.out ac))))
            try simp only [Act.put, List.setIfInBounds_toArray, List.set_cons_succ, List.set_cons_zero]
            refine wpAnyU_all (rs := [20]) (by kernel_rfl) (by simp) ?_
            intro j hj
            obtain rfl := List.mem_singleton.1 hj
            clear hj
            refine wpOp_shut rfl (fun K' HK => ?_)
            refine N_step_any kFn (w0 := w4) (W := w4.drew) 0 ?h0 (.tmp 73) (.tmp 92) 32 40 _ 64 ?h1 Try.underlying32 infoFun rfl (by decide) (by decide) (.slice A9 outs.length c9) outs ⟨n.text, n.names.length, x, decide (n.num = 1), T4.code⟩ [.string n.text, .int .i64 n.names.length, .int .i64 x, .bool (n.num == 1), .slice Ac T4.code.length cc] (fun j => W5.heap.size ≤ j) oc ?c1 ?c2 ?c3 ?c4 ?c5 ?c6 ?c7 ?c8 ?c9 ?c10
            (case h0 => rfl)
            (case h1 => rfl)
            (case c1 => rfl)
            (case c2 => rfl)
            (case c3 => exact Kd.FK_step HFK.out (fun j _ _ => rfl))
            (case c4 => exact fun j q => ⟨by have := HOC.out j q; have := LT.out; omega, fun e => N9.out j (by have := HOC.out j q; have := LT.out; omega) e.symm⟩)
            (case c5 => exact fun j q => HFr.out j q)
            (case c6 => exact Kd.N_drew (Kd.N_mono HN5.out (fun j q => q.1)))
            (case c7 => exact (Below.refl 0 w4).drew)
            (case c8 => exact Nat.zero_le _)
            (case c9 => have := HOL.out; omega)
            intro v1 w9 hN9 _ hg9 _
            obtain ⟨A1, cap1, rfl⟩ := Kd.N_slice hN9
            rw [List.length_append, List.length_singleton] at hN9 ⊢
            have HN9 := hid hN9
            have HG9 := hid hg9
            clear hN9 hg9
            have z1 := keepg HG9.out (N9.out _ (Nat.le_refl _)) m1
            have z2 := keepg HG9.out (N9.out _ (Nat.le_refl _)) m2
            have z3 := keepg HG9.out (N9.out _ (Nat.le_refl _)) m3
            have z4 := keepg HG9.out N9b.out sl
            have z5 := keepg HG9.out (N9.out _ (by have := HAB.out.2; omega)) ac
            refine HK.out _ _ ⟨.inr ?_, ?_⟩
            · exact ⟨z1, z2, z3, z4, z5⟩
            clear HK K'
            have hS := And.intro (z1) (And.intro (z2) (And.intro (z3) (And.intro (z4) (z5))))
            change wpAnyU _ _ _ _ _ _ _ _ (Act.put _ (some 93) _) _
            simp only [Act.put, List.setIfInBounds_toArray, List.set_cons_succ, List.set_cons_zero]
            refine wpAnyU_all (rs := [21]) (by kernel_rfl) (by simp) ?_
            intro j hj
            obtain rfl := List.mem_singleton.1 hj
            clear hj
            refine wpOp_shut rfl (fun K' HK => ?_)
            go_simp
            refine HK.out _ _ ⟨.inl (by decide), ?_⟩
            clear HK K'
            try simp only [Act.put, List.setIfInBounds_toArray, List.set_cons_succ, List.set_cons_zero]
            refine wpAnyU_done (by kernel_rfl) ?_ _
            have HB9 := hid (show Below W5.heap.size W5 w9 from by
              have h1 : Below W5.heap.size W5 V2 := HB5.out.trans ((HBA.out.trans (HBB.out.mono (by have := HVS.out; omega))).mono (by have := LT.out; omega))
              have h2 : Kp (fun j => j = a) V2 w4 := K5.out.mono (fun j q => q.elim id (fun q => q.elim))
              have h3 : Kp (fun j => W5.heap.size ≤ j) w4 w9 := (Kp.of_below (K := fun j => W5.heap.size ≤ j) (below_drew (Below.refl _ _))).trans (Kp.grown (K := fun j => W5.heap.size ≤ j) (w := w4.drew) HG9.out (fun j e => (HN5.out.1 j e).1)) (fun _ q => .inl q)
              exact h1.trans ((h2.to_below (n := W5.heap.size) (by have := LT.out; omega) (fun j q => by have := HAB.out; have := LT.out; omega)).trans (h3.to_below (n := W5.heap.size) (by have := K5.out.size; have := LT.out; omega) (fun j q => q))))
            clear hS m1 m2 m3 sl ac z1 z2 z3 z4 z5
            go_wp2_with fail
            go_roundw
            case rel => exact ⟨j + 1, _, by have := HOE.out; omega, by go_num, HN9, HR2, HB9⟩
            case measure => simp [RowKit.intOf]; have := HOE.out; omega
          · cases hr
        · obtain rfl : j = os.length := by omega
          have hr := HFN.out
          rw [List.drop_length] at hr
          obtain rfl : outs = Fs := Option.some.inj hr
          have hge' : ¬ (os.length : Int) < (fs.length : Int) + 1 := by have := HOE.out; omega
          clear hr
          go_wp2_with fail
          go_ret
          exact ⟨_, _, rfl, Kd.N_bound HNX.out, fun k q => ⟨by have := HBw.out.size; have := q.1; omega, q.2⟩, HBw.out.trans (HB5.out.mono HBw.out.size)⟩
end
end Go.Proofs.Ytibepkblgliooaa.Q
namespace Go.Proofs.Ytibepkblgliooaa.Q
open Go.RowKit
open Go.Proofs.YtibepkblgliooaaW.PrintWords
section
variable {w w' : World} {ok : Nat → Prop} {g c n : Nat} {Fs : List Fn} {A : Option Addr}
/-- A function among some, read. -/
theorem fnAt {i : Nat} {x : Fn} (h : Kd.N kFn 40 w 0 ok (.slice (some ⟨g, 0, none⟩) n c) Fs) (hi : Fs[i]? = some x) : ∃ Ac cc, i < n ∧ w.cell? ⟨g, i * 5, none⟩ = some (.string x.name) ∧ w.cell? ⟨g, i * 5 + 1, none⟩ = some (.int .i64 x.params) ∧ w.cell? ⟨g, i * 5 + 2, none⟩ = some (.int .i64 x.slots) ∧ w.cell? ⟨g, i * 5 + 3, none⟩ = some (.bool x.gen) ∧ w.cell? ⟨g, i * 5 + 4, none⟩ = some (.slice Ac x.code.length cc) ∧ x.code.length ≤ cc ∧ kIns.C w Ac x.code.length x.code := by
  have hlt := (List.getElem?_eq_some_iff.1 hi).1
  have hn : n = Fs.length := (Kd.N_reads' h).1
  obtain ⟨cs, hcl, hF, hcc, _⟩ := Kd.N_elem h x (i : Int) (by omega) (by omega)
  have hx : Fs.getD ((i : Int)).toNat x = x := by simp [List.getD_eq_getElem?_getD, hi]
  rw [hx] at hF
  obtain ⟨Ac, cc, rfl, hl, hC⟩ := kFn_open (Kd.FK_now hF)
  have h0 := hcc 0 _ rfl
  have h1 := hcc 1 _ rfl
  have h2 := hcc 2 _ rfl
  have h3 := hcc 3 _ rfl
  have h4 := hcc 4 _ rfl
  rw [Int.toNat_natCast] at h0 h1 h2 h3 h4
  exact ⟨Ac, cc, by omega, h0, h1, h2, h3, h4, hl, hC⟩
/-- An instruction among some, read. -/
theorem insAt {j : Nat} {y : Ins} {code : List Ins} (h : kIns.C w A n code) (hj : code[j]? = some y) : ∃ ad, A = some ad ∧ j < n ∧ w.cell? (ad.add (j * 4)) = some (.int .i64 y.op) ∧ w.cell? ⟨ad.block, ad.off + (j * 4 + 1), none⟩ = some (.int .i64 y.a) ∧ w.cell? ⟨ad.block, ad.off + (j * 4 + 2), none⟩ = some (.int .i64 y.b) ∧ w.cell? ⟨ad.block, ad.off + (j * 4 + 3), none⟩ = some (.string y.s) := by
  have hlt := (List.getElem?_eq_some_iff.1 hj).1
  have hn : code.length = n := Kd.C_len h
  obtain ⟨ad, cs, hA, hcl, hK, hcc⟩ := Kd.C_get h y (j : Int) (by omega) (by omega)
  have hx : code.getD ((j : Int)).toNat y = y := by simp [List.getD_eq_getElem?_getD, hj]
  rw [hx] at hK
  obtain rfl := kIns_K hK
  have h0 := hcc 0 _ rfl
  have h1 := hcc 1 _ rfl
  have h2 := hcc 2 _ rfl
  have h3 := hcc 3 _ rfl
  rw [Int.toNat_natCast] at h0 h1 h2 h3
  have e : kIns.sz = 4 := rfl
  rw [e] at h0 h1 h2 h3
  exact ⟨ad, hA, by omega, h0, by simpa [Addr.add] using h1, by simpa [Addr.add] using h2, by simpa [Addr.add] using h3⟩
end
theorem N_headFn {w : World} {ok : Nat → Prop} {v : Value} {Fs : List Fn} (h : Kd.N kFn 40 w 0 ok v Fs) (hp : 0 < Fs.length) : ∃ g c, v = .slice (some ⟨g, 0, none⟩) Fs.length c := by
  obtain ⟨g, c, e, _⟩ := Kd.N_form h hp
  exact ⟨g, c, e⟩
/-- A known program is compiled. -/
theorem chkM_c {src : ByteArray} {f : Tree → List Fn → Bool} (h : chkM src f = true) : ∃ (T : Tree) (Fs : List Fn), f T Fs = true ∧ T.ok = true ∧ (∀ w, Calls Try.prog 8 #[.string src] w fun e w' => ∃ okl g cap, e = .returned (.agg #[.slice (some ⟨g, 0, none⟩) T.l.length cap, .int .i64 T.at_, .bool T.ok]) ∧ NR w' okl g cap T.l ∧ (∀ k, okl k → w.heap.size ≤ k ∧ k < w'.heap.size) ∧ Below w.heap.size w w') ∧
    ∀ (w : World) (okl : Nat → Prop) (g cap : Nat), NR w okl g cap T.l → (∀ k, okl k → k < w.heap.size) → Calls Try.prog 11 #[.slice (some ⟨g, 0, none⟩) T.l.length cap] w (CompR w Fs) := by
  obtain ⟨T, Fs, p1, p2, p3, p4, p5, p6⟩ := chkM_get h
  exact ⟨T, Fs, p6, p3, parse_ok p1 p4, fun w okl g cap h hlo => compile_c h hlo p5 p4 p2⟩
set_option maxHeartbeats 1600000 in
set_option maxRecDepth 100000 in
theorem awakeM_c (w : World) : Calls Try.prog 10 #[] w fun e w' => e = .returned (.bool true) ∧ Below w.heap.size w w' := by
  obtain ⟨T, Fs, f1, _, P1, C1⟩ := chkM_c awakeM
  obtain ⟨fn, rfl, x, y, hc, hx, hy⟩ : ∃ fn, Fs = [fn] ∧ ∃ x y, fn.code = [x, y] ∧ x.op = 1 ∧ y.op = 31 := by
    split at f1
    · rename_i fn
      split at f1
      · rename_i x y hxy
        simp only [Bool.and_eq_true, decide_eq_true_eq] at f1
        exact ⟨fn, rfl, x, y, hxy, f1⟩
      · cases f1
    · cases f1
  have HP1 := hid P1
  have HC1 := hid C1
  have HX := hid (And.intro hc (And.intro hx hy))
  clear P1 C1 f1 hc hx hy
  have hfl := fun A n c a b w => field_l A n c a b w
  go_enter Try.func10, Try.ntmps10
  go_wp2_with fail
  refine (HP1.out _).mono ?_
  rintro e w1 ⟨okl, g, cap, rfl, hN, hn, hb⟩
  have HN := hid hN
  have HNN := hid hn
  have HB := hid hb
  clear hN hn hb HP1
  go_wp2_with fail
  refine (HC1.out w1 okl g cap HN.out (fun k hk => (HNN.out k hk).2)).mono ?_
  rintro e w2 ⟨v, ok, rfl, hF, hok, hb⟩
  have HB2 := hid (HB.out.trans (hb.mono HB.out.size))
  obtain ⟨g2, c2, rfl⟩ := N_headFn hF (Nat.succ_pos _)
  obtain ⟨Ac, cc, _, _, _, _, _, d4, _, hC⟩ := fnAt (i := 0) hF rfl
  rw [HX.out.1] at hC d4
  obtain ⟨ad, rfl, _, x0, _⟩ := insAt (j := 0) hC rfl
  obtain ⟨ad', e', _, y0, _⟩ := insAt (j := 1) hC rfl
  injection e' with e'
  subst e'
  rw [HX.out.2.1] at x0
  rw [HX.out.2.2] at y0
  have d4' : w2.cell? ⟨g2, 4, none⟩ = some (.slice (some ad) 2 cc) := by simpa using d4
  have x0' : w2.cell? ad = some (.int .i64 1) := by simpa [Addr.add] using x0
  have y0' : w2.cell? ⟨ad.block, ad.off + 4, none⟩ = some (.int .i64 31) := by simpa [Addr.add] using y0
  clear hb hF hok HN HNN HB HC1 d4 hC x0 y0
  go_wp2_with fail
  go_ret
  exact ⟨rfl, HB2.out⟩
end Go.Proofs.Ytibepkblgliooaa.Q
namespace Go.Proofs.Ytibepkblgliooaa.Q
open Go.RowKit
open Go.Proofs.YtibepkblgliooaaW.PrintWords
/-- So many blocks are made, one behind the other. -/
def allocs (w : World) : List Obj → World
  | [] => w
  | o :: l => allocs (w.alloc o) l
theorem allocs_below : ∀ (l : List Obj) {n : Nat} {w W : World}, n ≤ W.heap.size → Below n w W → Below n w (allocs W l)
  | [], _, _, _, _, h => h
  | _ :: l, _, _, _, hn, h => allocs_below l (by simp; omega) (h.alloc hn _)
theorem allocs_size : ∀ (l : List Obj) (w : World), (allocs w l).heap.size = w.heap.size + l.length
  | [], _ => rfl
  | _ :: l, w => by rw [allocs, allocs_size l]; simp; omega
theorem allocs_at : ∀ {l : List Obj} {i : Nat} {o : Obj} {w : World}, l[i]? = some o → (allocs w l).heap[w.heap.size + i]? = some o
  | [], _, _, _, h => by simp at h
  | x :: l, 0, o, w, h => by
    obtain rfl : x = o := by simpa using h
    have hb := allocs_below l (Nat.le_refl _) (Below.refl (w.alloc x).heap.size (w.alloc x))
    exact (hb.block _ (by simp)).trans (heap_alloc_new _ _)
  | x :: l, i + 1, o, w, h => by
    have h2 := allocs_at (w := w.alloc x) (show l[i]? = some o from h)
    have e : (w.alloc x).heap.size + i = w.heap.size + (i + 1) := by simp; omega
    rw [e] at h2
    exact h2
end Go.Proofs.Ytibepkblgliooaa.Q
