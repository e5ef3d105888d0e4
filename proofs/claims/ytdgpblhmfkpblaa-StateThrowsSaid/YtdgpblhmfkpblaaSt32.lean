/- StateFull, walked. -/
import Derived.Test.YtdgpblhmfkpblaaSt28
import Derived.Test.YtdgpblhmfkpblaaSt31
import Derived.Test.YtdgpblhmfkpblaaOvO
namespace Go.Proofs.Ytdgpblhmfkpblaa.Pg
open Go.RowKit

theorem step_call_want {P : Program} {ops : Array Oper} {o : Oper} {a : Act} {w : World} {K : Act → World → Prop} {Q : Exit → Act → World → Prop} {E : Prop} (hw : Region.wanted o (yielded ops a.tmps) = true) {f : FuncId} {fn : Func} {xs : Array Operand} {ts : Array TypeId}
    (hop : o.op = .call { callee := .value (.func f), args := xs, argTypes := ts }) (hf : P.funcs[f]? = some fn) (hname : (fn.name == "runtime.NumGoroutine") = false) (hb : fn.body.isSome = true) (args : Array Value) (hargs : xs.map a.eval = args)
    (h : Calls P f args w fun e w' => ∃ v, e = .returned v ∧ K (a.put o.dst v) w') : if Region.wanted o (yielded ops a.tmps) = true then Oper.wp P o a w K Q else E := by
  rw [if_pos hw]
  have he : (callFunc f args).run P w = .ok (.enter f args) w := by
    have h1 : fn.name ≠ "runtime.NumGoroutine" := by simpa using hname
    obtain ⟨c, hc⟩ := Option.isSome_iff_exists.1 hb
    simp [callFunc, hf, h1, hc]
  have hrun : (execOp a.eval o).run P w = .ok (.enter f args) w := by
    unfold execOp
    simp [hop, resolve, Deferred.ofValue, invoke, Act.eval, hargs, he]
  unfold Oper.wp
  rw [hrun, Oper.upon_enter]
  refine h.mono fun e w'' hh => ?_
  obtain ⟨v, rfl, hk⟩ := hh
  exact hk
theorem ViewR.frame {B : Bd} {w : World} {Ac A1 A2 A3 : Option Addr} {p1 p2 p3 : Nat} {rows : List (List Value)} {P : PS} (h : ViewR B w Ac A1 p1 A2 p2 A3 p3 rows P) {F : FrD} (hF : P.frames[0]? = some F) : ∃ b o A p, A1 = some ⟨b, o, none⟩ ∧ w.cell? ⟨b, o + 6, none⟩ = some (.slice A F.vals.length p) := by
  obtain ⟨c, hc, A, n, p, A', n', p', e, hv, _⟩ := h.frs.2 0 F hF
  obtain ⟨b, o, e', _, hcell⟩ := h.fr.get.2.2 0 c hc
  have hn := hv.get.1
  rw [List.length_map] at hn
  exact ⟨b, o, A, p, e', by have := hcell 6 (.slice A n p) (by rw [e]; rfl); rw [hn]; simpa using this⟩
def gF (gen : Bool) : FunD := ⟨ByteArray.empty, 0, 1, gen, .slice none 0 0⟩
def pf : Bool → Nat → PS
  | _, 0 => ⟨0, [scopeC 0 [holeV]], [⟨0, 0, 1, undefV, [], [], 0⟩], [], []⟩
  | false, k + 1 => { pf false k with cells := (pf false k).cells ++ [scopeC 1 [holeV]], frames := (pf false k).frames ++ [⟨1, 0, ((pf false k).cells.length : Nat) + 1, undefV, [], [], 0⟩] }
  | true, k + 1 => { pf true k with cells := (pf true k).cells ++ [scopeC 1 [holeV], genC undefV 1 (((pf true k).cells.length : Nat) + 1)], frames := (pf true k).frames.set 0 { ((pf true k).frames.headD ⟨0, 0, 1, undefV, [], [], 0⟩) with vals := ((pf true k).frames.headD ⟨0, 0, 1, undefV, [], [], 0⟩).vals ++ [refV (((pf true k).cells.length : Nat) + 2)] } }
def fK (gen : Bool) : Nat := if gen then 256 else 63
theorem pf_rest (gen : Bool) : ∀ k, (pf gen k).status = 0 ∧ (pf gen k).jobs = [] ∧ (pf gen k).outs = []
  | 0 => by cases gen <;> exact ⟨rfl, rfl, rfl⟩
  | k + 1 => by
    have := pf_rest gen k
    cases gen <;> exact this
theorem pf_plain : ∀ k, (pf false k).cells.length = k + 1 ∧ (pf false k).frames.length = k + 1 ∧ ∀ F ∈ (pf false k).frames, F.vals = [] ∧ F.tries = []
  | 0 => ⟨rfl, rfl, fun F hF => by rw [List.mem_singleton.1 hF]; exact ⟨rfl, rfl⟩⟩
  | k + 1 => by
    obtain ⟨h1, h2, h3⟩ := pf_plain k
    refine ⟨by simp [pf, h1], by simp [pf, h2], fun F hF => ?_⟩
    rcases List.mem_append.1 hF with hF | hF
    · exact h3 F hF
    · rw [List.mem_singleton.1 hF]; exact ⟨rfl, rfl⟩
theorem pf_gen : ∀ k, (pf true k).cells.length = 2 * k + 1 ∧ ∃ F, (pf true k).frames = [F] ∧ F.vals.length = k ∧ F.tries = []
  | 0 => ⟨rfl, _, rfl, rfl, rfl⟩
  | k + 1 => by
    obtain ⟨h1, F, h2, h3, h4⟩ := pf_gen k
    refine ⟨by simp [pf, h1]; omega, { F with vals := F.vals ++ [refV (((pf true k).cells.length : Nat) + 2)] }, by simp [pf, h2], by simp [h3], h4⟩
theorem pf_ok (gen : Bool) {k : Nat} (hk : k ≤ fK gen) : (pf gen k).ok := by
  obtain ⟨_, hj, ho⟩ := pf_rest gen k
  cases gen
  · obtain ⟨h1, h2, h3⟩ := pf_plain k
    simp [fK] at hk
    exact ⟨by omega, by omega, by rw [hj]; decide, by rw [ho]; decide, fun F hF => by rw [(h3 F hF).1, (h3 F hF).2]; decide⟩
  · obtain ⟨h1, F, h2, h3, h4⟩ := pf_gen k
    simp [fK] at hk
    exact ⟨by omega, by rw [h2]; exact (by decide : 1 ≤ 100000), by rw [hj]; decide, by rw [ho]; decide, fun F' hF => by rw [h2] at hF; rw [List.mem_singleton.1 hF, h4, h3]; exact ⟨by omega, by decide⟩⟩
section
variable {B B' : Bd} {w w' : World} {G G' : SG} {D D' : FD}
theorem full_step {gen : Bool} {k : Nat} (hk : k < fK gen) (h : St1 B w D G (pf gen k)) {Af : Option Addr} {nf p : Nat} (hfu : G.funs = .slice Af nf p) (hF : RowR B w 5 (.slice Af nf p) ([gF false, gF gen].map FunD.row)) :
    Calls Try.prog 16 #[ptr G.at_, .int .i64 1, .int .i64 1, undefV.agg, .slice none 0 0] w fun e w' => e = .returned (.int .i64 0) ∧ ∃ B' D' G', St1 B' w' D' G' (pf gen (k + 1)) ∧ SMv B w D G B' w' D' G' := by
  cases gen
  · obtain ⟨h1, h2, h3⟩ := pf_plain k
    simp [fK] at hk
    refine (enter_c h (by simp) hfu hF (k := 1) (f := gF false) rfl rfl ⟨_, _, _, rfl⟩ (by decide) (by decide) 1 undefV (args := []) (A := none) (n := 0) (cap := 0) (RowR.nil _ _ _) (by omega) (by omega)).mono ?_
    rintro e w' ⟨rfl, B', D', G', hS, hM⟩
    exact ⟨rfl, B', D', G', St1.of hS hM, hM⟩
  · obtain ⟨h1, F, h2, h3, h4⟩ := pf_gen k
    simp [fK] at hk
    refine (enter_gen h hfu hF (k := 1) (f := gF true) rfl ⟨_, _, _, rfl⟩ 1 undefV (args := []) (A := none) (n := 0) (cap := 0) (RowR.nil _ _ _) (by simp) rfl (by decide) (by decide) (by rw [h2]; exact (by decide : 1 < 64)) (by omega) (m := 0) (by rw [h2]; rfl) (Fl := F) (by rw [h2]; rfl) (by omega)).mono ?_
    rintro e w' ⟨rfl, B', D', G', hS, hM⟩
    refine ⟨rfl, B', D', G', St1.of ?_ hM, hM⟩
    have e1 : (pf true (k + 1)) = { pf true k with cells := (pf true k).cells ++ [scopeC 1 [holeV], genC undefV 1 (((pf true k).cells.length : Nat) + 1)], frames := (pf true k).frames.set 0 { F with vals := F.vals ++ [refV (((pf true k).cells.length : Nat) + 2)] } } := by
      simp only [pf, h2, List.headD_cons]
    rw [e1]
    exact hS
theorem full_stop {gen : Bool} (h : St1 B w D G (pf gen (fK gen))) {Af : Option Addr} {nf p : Nat} (hfu : G.funs = .slice Af nf p) (hF : RowR B w 5 (.slice Af nf p) ([gF false, gF gen].map FunD.row)) :
    Calls Try.prog 16 #[ptr G.at_, .int .i64 1, .int .i64 1, undefV.agg, .slice none 0 0] w fun e w' => e = .returned (.int .i64 7) ∧ Below w.heap.size w w' := by
  cases gen
  · obtain ⟨h1, h2, h3⟩ := pf_plain (fK false)
    exact enter_stack h hfu hF (k := 1) (f := gF false) rfl ⟨_, _, _, rfl⟩ 1 undefV (args := []) (A := none) (n := 0) (cap := 0) (RowR.nil _ _ _) (by rw [h2]; decide)
  · obtain ⟨h1, F, h2, h3, h4⟩ := pf_gen (fK true)
    exact enter_vals h hfu hF (k := 1) (f := gF true) rfl ⟨_, _, _, rfl⟩ 1 undefV (args := []) (A := none) (n := 0) (cap := 0) (RowR.nil _ _ _) rfl (by rw [h2]; exact (by decide : 1 < 64)) (by rw [h1]; decide) (m := 0) (by rw [h2]; rfl) (Fl := F) (by rw [h2]; rfl) (by rw [h3]; decide)
end
set_option maxHeartbeats 6400000 in
set_option maxRecDepth 100000 in
theorem full_law (w : World) (n : Int) (gen : Bool) : Calls Try.prog 5 #[.int .u8 n, .bool gen] w fun e w' => e = .returned (.bool true) ∧ Below w.heap.size w w' := by
  go_enter Try.func5, Try.ntmps5
  have r2 := heap_alloc_new w (.cells #[.string ⟨#[]⟩, .int .i64 0, .int .i64 1, .bool false, .slice none 0 0, .string ⟨#[]⟩, .int .i64 0, .int .i64 1, .bool gen, .slice none 0 0] 28)
  have hb2 := (Below.refl w.heap.size w).alloc (Nat.le_refl _) (.cells #[.string ⟨#[]⟩, .int .i64 0, .int .i64 1, .bool false, .slice none 0 0, .string ⟨#[]⟩, .int .i64 0, .int .i64 1, .bool gen, .slice none 0 0] 28)
  go_wp2_with fail
  generalize (w.alloc (.cells #[.string ⟨#[]⟩, .int .i64 0, .int .i64 1, .bool false, .slice none 0 0, .string ⟨#[]⟩, .int .i64 0, .int .i64 1, .bool gen, .slice none 0 0] 28)) = W2 at r2 hb2 ⊢
  have hF : RowR (here w) W2 5 (.slice (some ⟨w.heap.size, 0, none⟩) 2 2) ([gF false, gF gen].map FunD.row) :=
    RowR.of_own (rows := [FunD.row (gF false), FunD.row (gF gen)]) (own_of_block (n := 2) (sz := 5) r2 rfl (by decide)) (by decide) (fun k hk => hk.elim) (by simp [FunD.row]) rfl
  refine (snew_c (B := here w) hb2.size (fun k hk => hk.elim) hF (f := gF false) rfl rfl ⟨_, _, _, rfl⟩ (by decide) (by decide)).mono ?_
  rintro e w3 ⟨a, rfl, B', D, G, hS, hat, hfu, hE, hf, hb3⟩
  have HX := hid (show ∃ B D G, St1 B w3 D G (pf gen 0) ∧ G.at_ = a ∧ G.funs = .slice (some ⟨w.heap.size, 0, none⟩) 2 2 ∧ RowR B w3 5 (.slice (some ⟨w.heap.size, 0, none⟩) 2 2) ([gF false, gF gen].map FunD.row) ∧ B.n = w.heap.size ∧ Below w.heap.size w w3 from
    ⟨B', D, G, by cases gen <;> exact hS, hat, hfu, (hF.raise hE (Nat.le_refl _)).move (hf.raise hE), hE.hn, hb2.trans (hb3.mono hb2.size)⟩)
  clear hS hE hf hb3 hb2 hF r2 hfu hat D G B' W2
  go_wp2_with (go_at_call 14; refine (err_c 0 _).mono ?_; rintro e w4 ⟨rfl, rfl⟩)
  go_loopw [7] (fun i wx => ∃ k : Nat, k ≤ fK gen ∧ i = .int .i64 k ∧ Box (∃ B D G, St1 B wx D G (pf gen k) ∧ G.at_ = a ∧ G.funs = .slice (some ⟨w.heap.size, 0, none⟩) 2 2 ∧ RowR B wx 5 (.slice (some ⟨w.heap.size, 0, none⟩) 2 2) ([gF false, gF gen].map FunD.row) ∧ B.n = w.heap.size ∧ Below w.heap.size w wx)) (fun i _ => fK gen - (RowKit.intOf i).toNat)
  case atStart => exact ⟨0, by omega, rfl, HX⟩
  case round =>
    clear HX
    obtain ⟨k, hk, rfl, HX⟩ := hrel
    obtain ⟨B, D, G, hS, rfl, hfu, hF, hN, hB⟩ := HX.out
    have HS := hid hS
    have HN := hid hN
    have HB := hid hB
    have HF := hid hF
    have HU := hid hfu
    clear HX hS hN hB hF hfu
    have hK400 : fK gen < 400 := by cases gen <;> decide
    have hk4 : (k : Int) < 400 := by omega
    go_wp2_with fail
    rcases Nat.lt_or_ge k (fK gen) with hlt | hge
    · refine (full_step hlt HS.out HU.out HF.out).mono ?_
      rintro e w6 ⟨rfl, B6, D6, G6, hS6, hM6⟩
      have HX := hid (show ∃ B D G', St1 B w6 D G' (pf gen (k + 1)) ∧ G'.at_ = G.at_ ∧ G'.funs = .slice (some ⟨w.heap.size, 0, none⟩) 2 2 ∧ RowR B w6 5 (.slice (some ⟨w.heap.size, 0, none⟩) 2 2) ([gF false, gF gen].map FunD.row) ∧ B.n = w.heap.size ∧ Below w.heap.size w w6 from
        ⟨B6, D6, G6, hS6, hM6.at_, hM6.funs.trans HU.out, hM6.row HF.out, hM6.ext.hn.trans HN.out, HB.out.trans (hM6.low HS.out (Nat.le_of_eq HN.out.symm))⟩)
      clear hS6 hM6 HS HB HN HF HU
      go_wp2_with (go_at_call 14; refine (err_c 0 _).mono ?_; rintro e w4 ⟨rfl, rfl⟩)
      go_roundw
      case rel => exact ⟨k + 1, by omega, by go_num, HX⟩
      case measure => simp [RowKit.intOf]; omega
    · obtain rfl : k = fK gen := by omega
      refine (full_stop HS.out HU.out HF.out).mono ?_
      rintro e w6 ⟨rfl, hb6⟩
      have HS6 := hid (HS.out.below hb6)
      have HB6 := hid (HB.out.trans (hb6.mono HB.out.size))
      have HF6 := hid (HF.out.move (Fr.of_below hb6))
      clear hb6 HS HB HF
      obtain ⟨P, hP⟩ : ∃ P, P = pf gen (fK gen) := ⟨_, rfl⟩
      have HOK := hid (show P.ok by rw [hP]; exact pf_ok gen (Nat.le_refl _))
      have HP := hid hP
      clear hP
      go_wp2_with (go_at_call 14; refine (err_c 7 _).mono ?_; rintro e w4 ⟨rfl, rfl⟩)
      refine (all_c HS6.out (pf_ok gen (Nat.le_refl _))).mono ?_
      rintro e w7 ⟨v, rfl, hb7, hv⟩
      obtain ⟨Ac, pc, A1, p1, A2, p2, A3, p3, rows, rfl, hr⟩ := hv.form
      clear hv
      rw [← HP.out] at hr
      rw [← HP.out]
      have r8 := heap_alloc_new w7 (.cells #[.int .i64 P.status, .int .i64 0, .int .i64 0, .slice Ac P.cells.length pc, .slice A1 P.frames.length p1, .int .i64 0, .slice A2 P.jobs.length p2, .slice none 0 0, .int .i64 0, .slice none 0 0, .slice none 0 0, .slice A3 P.outs.length p3] 44)
      have hb8 := (Below.refl w7.heap.size w7).alloc (Nat.le_refl _) (.cells #[.int .i64 P.status, .int .i64 0, .int .i64 0, .slice Ac P.cells.length pc, .slice A1 P.frames.length p1, .int .i64 0, .slice A2 P.jobs.length p2, .slice none 0 0, .int .i64 0, .slice none 0 0, .slice none 0 0, .slice A3 P.outs.length p3] 44)
      have l8 : w7.heap.size < (w7.alloc (.cells #[.int .i64 P.status, .int .i64 0, .int .i64 0, .slice Ac P.cells.length pc, .slice A1 P.frames.length p1, .int .i64 0, .slice A2 P.jobs.length p2, .slice none 0 0, .int .i64 0, .slice none 0 0, .slice none 0 0, .slice A3 P.outs.length p3] 44)).heap.size := by go_size
      have HV := hid (hr.below hb8)
      have hb78 := hb7.trans (hb8.mono hb7.size)
      have HS8 := hid (HS6.out.below hb78)
      have HB8 := hid (HB6.out.trans (hb78.mono HB6.out.size))
      have HF8 := hid (HF6.out.move (Fr.of_below hb78))
      go_upto_region 8 with fail
      clear hb7 hr hb8 hb78 HS6 HB6 HF6
      generalize (w7.alloc (.cells #[.int .i64 P.status, .int .i64 0, .int .i64 0, .slice Ac P.cells.length pc, .slice A1 P.frames.length p1, .int .i64 0, .slice A2 P.jobs.length p2, .slice none 0 0, .int .i64 0, .slice none 0 0, .slice none 0 0, .slice A3 P.outs.length p3] 44)) = W8 at r8 HV HS8 HB8 HF8 l8 ⊢
      generalize w7.heap.size = b8 at r8 l8 ⊢
      have R8 := hid r8
      clear r8
      go_wp2_with fail
      refine (full_stop HS8.out HU.out HF8.out).mono ?_
      rintro e w9 ⟨rfl, hb9⟩
      have R9 := hid ((hb9.block _ l8).trans R8.out)
      have L9 := hid (Nat.lt_of_lt_of_le l8 hb9.size)
      have HS9 := hid (HS8.out.below hb9)
      have HV9 := hid (HV.out.below hb9)
      have HB9 := hid (HB8.out.trans (hb9.mono HB8.out.size))
      clear hb9 HS8 HV HB8 R8 l8 HF8
      go_upto_region 9 with fail
      have lb := L9.out
      have y0 := (cell_of_row _ _ 0 _ _ _ R9.out).trans (b := some (Value.int .i64 P.status)) rfl
      have y1 := (cell_of_row _ _ 1 _ _ _ R9.out).trans (b := some (Value.int .i64 0)) rfl
      have y2 := (cell_of_row _ _ 2 _ _ _ R9.out).trans (b := some (Value.int .i64 0)) rfl
      have y3 := (cell_of_row _ _ 3 _ _ _ R9.out).trans (b := some (Value.slice Ac P.cells.length pc)) rfl
      have y4 := (cell_of_row _ _ 4 _ _ _ R9.out).trans (b := some (Value.slice A1 P.frames.length p1)) rfl
      have y5 := (cell_of_row _ _ 5 _ _ _ R9.out).trans (b := some (Value.int .i64 0)) rfl
      have y6 := (cell_of_row _ _ 6 _ _ _ R9.out).trans (b := some (Value.slice A2 P.jobs.length p2)) rfl
      have y7 := (cell_of_row _ _ 7 _ _ _ R9.out).trans (b := some (Value.slice none 0 0)) rfl
      have y8 := (cell_of_row _ _ 8 _ _ _ R9.out).trans (b := some (Value.int .i64 0)) rfl
      have y9 := (cell_of_row _ _ 9 _ _ _ R9.out).trans (b := some (Value.slice none 0 0)) rfl
      have y10 := (cell_of_row _ _ 10 _ _ _ R9.out).trans (b := some (Value.slice none 0 0)) rfl
      have y11 := (cell_of_row _ _ 11 _ _ _ R9.out).trans (b := some (Value.slice A3 P.outs.length p3)) rfl
      go_region_law (first
        | (refine step_call rfl (f := 18) rfl Try.func18 (by kernel_rfl) rfl #[ptr G.at_] (by simp only [List.map_toArray, List.map_cons, List.map_nil]; rfl) ?_; refine (all_c (HS9.out.below ((Below.refl _ _).drew)) (pf_ok gen (Nat.le_refl _))).mono ?_; rintro e w10 ⟨v, rfl, hb10', hv⟩; refine ⟨_, rfl, ?_⟩; obtain ⟨Bc, qc, E1, q1, E2, q2, E3, q3, rows', rfl, hr'⟩ := hv.form; rw [← HP.out] at hr'; rw [← HP.out]; have hb10 := below_drew hb10'; have HV10 := hid (HV9.out.below hb10); have HV10' := hid hr'; have HB10 := hid hb10; have y0 := carry hb10 lb y0; have y1 := carry hb10 lb y1; have y2 := carry hb10 lb y2; have y3 := carry hb10 lb y3; have y4 := carry hb10 lb y4; have y5 := carry hb10 lb y5; have y6 := carry hb10 lb y6; have y7 := carry hb10 lb y7; have y8 := carry hb10 lb y8; have y9 := carry hb10 lb y9; have y10 := carry hb10 lb y10; have y11 := carry hb10 lb y11; clear hb10 hb10' hv hr')
        | (refine step_call rfl (f := 22) rfl Try.func22 (by kernel_rfl) rfl #[.agg #[.int .i64 P.status, .int .i64 0, .int .i64 0, .slice Ac P.cells.length pc, .slice A1 P.frames.length p1, .int .i64 0, .slice A2 P.jobs.length p2, .slice none 0 0, .int .i64 0, .slice none 0 0, .slice none 0 0, .slice A3 P.outs.length p3], .agg #[.int .i64 P.status, .int .i64 0, .int .i64 0, .slice Bc P.cells.length qc, .slice E1 P.frames.length q1, .int .i64 0, .slice E2 P.jobs.length q2, .slice none 0 0, .int .i64 0, .slice none 0 0, .slice none 0 0, .slice E3 P.outs.length q3]] (by simp only [List.map_toArray, List.map_cons, List.map_nil]; rfl) ?_; refine (same_true HV10.out.cells HV10'.out.cells (by have := HOK.out.cells; omega) HV10.out.fr HV10.out.frs HV10'.out.fr HV10'.out.frs (by have := HOK.out.frames; omega) HV10.out.jobs HV10'.out.jobs HV10.out.outs HV10'.out.outs).mono ?_; rintro e w11 ⟨rfl, hb11⟩; refine ⟨_, rfl, ?_⟩; have HB11 := hid (HB10.out.trans (hb11.mono HB10.out.size)); clear hb11)
        | (refine step_call_want (by rfl) (f := 14) rfl Try.func14 (by kernel_rfl) rfl #[.int .i64 7] (by simp only [List.map_toArray, List.map_cons, List.map_nil]; rfl) ?_; refine (err_c 7 _).mono ?_; rintro e w12 ⟨rfl, hw12⟩; subst w12; refine ⟨_, rfl, ?_⟩))
      all_goals
        have r11 := (HB11.out.block _ L9.out).trans R9.out
        have hv11 := HV9.out.below HB11.out
        have l11 := Nat.lt_of_lt_of_le L9.out HB11.out.size
        have HBE := hid (HB9.out.trans (HB11.out.mono HB9.out.size))
        have z4 := (cell_of_row _ _ 4 _ _ _ r11).trans (b := some (Value.slice A1 P.frames.length p1)) rfl
        clear HS9 HV9 HV10 HV10' HB10 HB11 HB9 R9 L9 r11 lb y0 y1 y2 y3 y4 y5 y6 y7 y8 y9 y10 y11 HU HN
        cases gen
        · have eK : fK false = 63 := rfl
          have eF : P.frames.length = 64 := by rw [HP.out]; exact (pf_plain 63).2.1
          clear hv11
          go_wp2_with (go_at_call 20; refine (awake16_c _).mono ?_; rintro e w12 ⟨rfl, hb12⟩; have HBX := hid (HBE.out.trans (hb12.mono HBE.out.size)); clear hb12)
          go_ret
          exact ⟨rfl, HBX.out⟩
        · have eK : fK true = 256 := rfl
          obtain ⟨_, F, h2, h3, _⟩ := pf_gen 256
          have eP : P.frames = [F] := by rw [HP.out]; exact h2
          have eF : P.frames.length = 1 := by rw [eP]; rfl
          obtain ⟨bf, of, Av, pv, rfl, z6⟩ := hv11.frame (F := F) (by rw [eP]; rfl)
          rw [h3] at z6
          clear hv11 h2 h3 eP
          go_wp2_with (go_at_call 20; refine (awake16_c _).mono ?_; rintro e w12 ⟨rfl, hb12⟩; have HBX := hid (HBE.out.trans (hb12.mono HBE.out.size)); clear hb12)
          go_ret
          exact ⟨rfl, HBX.out⟩
end Go.Proofs.Ytdgpblhmfkpblaa.Pg
