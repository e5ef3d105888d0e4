/- StateThrows, walked. -/
import Derived.Test.YtdgpblhmfkpblaaSt32
import Derived.Test.YtdgpblhmfkpblaaSt38
namespace Go.Proofs.Ytdgpblhmfkpblaa.Pg
open Go.RowKit

def numsL (i : Nat) : List VD := (List.range i).map (fun x => numV (x : Nat))
theorem numsL_succ (i : Nat) : numsL (i + 1) = numsL i ++ [numV (i : Nat)] := by simp [numsL, List.range_succ]
theorem numsL_length (i : Nat) : (numsL i).length = i := by simp [numsL]
theorem pf_gen0 : ∀ k, ∀ F ∈ (pf false k).frames, F.gen = 0
  | 0, F, hF => by rw [List.mem_singleton.1 hF]
  | k + 1, F, hF => by
    rcases List.mem_append.1 hF with hF | hF
    · exact pf_gen0 k F hF
    · rw [List.mem_singleton.1 hF]
/-- The state, its j-th frame holding so many values. -/
def pt (k j : Nat) (F : FrD) (i : Nat) : PS := { pf false k with frames := (pf false k).frames.set j { F with vals := numsL i } }
theorem pt_zero {k j : Nat} {F : FrD} (hF : (pf false k).frames[j]? = some F) : pt k j F 0 = pf false k := by
  have hv := ((pf_plain k).2.2 F (List.mem_of_getElem? hF)).1
  unfold pt
  rw [show ({ F with vals := numsL 0 } : FrD) = F by cases F; simp only at hv; subst hv; rfl, list_set_same hF]
theorem pt_at {k j : Nat} {F : FrD} {i : Nat} (hF : (pf false k).frames[j]? = some F) : (pt k j F i).frames[j]? = some { F with vals := numsL i } := by
  unfold pt
  exact List.getElem?_set_self (List.getElem?_eq_some_iff.1 hF).1
theorem pt_set {k j : Nat} {F : FrD} {i : Nat} (l : Nat) : ({ pt k j F i with frames := (pt k j F i).frames.set j { F with vals := numsL l } } : PS) = pt k j F l := by
  unfold pt
  simp only [List.set_set]
set_option maxHeartbeats 6400000 in
set_option maxRecDepth 100000 in
theorem throws_law (w : World) (n at' vals : Int) (has : Bool) (hn0 : 0 ≤ n) (hn1 : n ≤ 255) (ha0 : 0 ≤ at') (ha1 : at' ≤ 255) (hv0 : 0 ≤ vals) (hv1 : vals ≤ 255) : Calls Try.prog 4 #[.int .u8 n, .int .u8 at', .int .u8 vals, .bool has] w fun e w' => e = .returned (.bool true) ∧ Below w.heap.size w w' := by
  obtain ⟨i0, hi, hz0, hz1, hz2⟩ := info_parts infoVal
  have HI := hid hi
  clear hi
  obtain ⟨K, eK, hK⟩ : ∃ K : Nat, n.tmod 10 = K ∧ K ≤ 9 := ⟨(n % 10).toNat, by rw [Int.tmod_eq_emod_of_nonneg hn0]; omega, by omega⟩
  obtain ⟨m, em, hm⟩ : ∃ m : Nat, vals.tmod 5 = m ∧ m ≤ 4 := ⟨(vals % 5).toNat, by rw [Int.tmod_eq_emod_of_nonneg hv0]; omega, by omega⟩
  obtain ⟨j, ej, hj⟩ : ∃ j : Nat, at'.tmod (1 + (K : Int)) = j ∧ j < K + 1 := ⟨(at' % (1 + (K : Int))).toNat, by rw [Int.tmod_eq_emod_of_nonneg ha0, Int.toNat_of_nonneg (Int.emod_nonneg _ (by omega))], by have := Int.emod_lt_of_pos at' (show (0 : Int) < 1 + (K : Int) by omega); omega⟩
  go_enter Try.func4, Try.ntmps4
  have r2 := heap_alloc_new w (.cells #[.string ⟨#[]⟩, .int .i64 0, .int .i64 1, .bool false, .slice none 0 0, .string ⟨#[]⟩, .int .i64 0, .int .i64 1, .bool false, .slice none 0 0] 28)
  have hb2 := (Below.refl w.heap.size w).alloc (Nat.le_refl _) (.cells #[.string ⟨#[]⟩, .int .i64 0, .int .i64 1, .bool false, .slice none 0 0, .string ⟨#[]⟩, .int .i64 0, .int .i64 1, .bool false, .slice none 0 0] 28)
  go_wp2_with fail
  generalize (w.alloc (.cells #[.string ⟨#[]⟩, .int .i64 0, .int .i64 1, .bool false, .slice none 0 0, .string ⟨#[]⟩, .int .i64 0, .int .i64 1, .bool false, .slice none 0 0] 28)) = W2 at r2 hb2 ⊢
  have hF : RowR (here w) W2 5 (.slice (some ⟨w.heap.size, 0, none⟩) 2 2) ([gF false, gF false].map FunD.row) :=
    RowR.of_own (rows := [FunD.row (gF false), FunD.row (gF false)]) (own_of_block (n := 2) (sz := 5) r2 rfl (by decide)) (by decide) (fun k hk => hk.elim) (by simp [FunD.row]) rfl
  refine (snew_c (B := here w) hb2.size (fun k hk => hk.elim) hF (f := gF false) rfl rfl ⟨_, _, _, rfl⟩ (by decide) (by decide)).mono ?_
  rintro e w3 ⟨a, rfl, B', D, G, hS, hat, hfu, hE, hf, hb3⟩
  have HX := hid (show ∃ B D G, St1 B w3 D G (pf false 0) ∧ G.at_ = a ∧ G.funs = .slice (some ⟨w.heap.size, 0, none⟩) 2 2 ∧ RowR B w3 5 (.slice (some ⟨w.heap.size, 0, none⟩) 2 2) ([gF false, gF false].map FunD.row) ∧ B.n = w.heap.size ∧ Below w.heap.size w w3 from
    ⟨B', D, G, hS, hat, hfu, (hF.raise hE (Nat.le_refl _)).move (hf.raise hE), hE.hn, hb2.trans (hb3.mono hb2.size)⟩)
  clear hS hE hf hb3 hb2 hF r2 hfu hat D G B' W2
  go_wp2_with (go_at_call 14; refine (err_c 0 _).mono ?_; rintro e w4 ⟨rfl, rfl⟩)
  go_loopw [12] (fun i wx => ∃ k : Nat, k ≤ K ∧ i = .int .i64 ((k : Nat) + 1) ∧ Box (∃ B D G, St1 B wx D G (pf false k) ∧ G.at_ = a ∧ G.funs = .slice (some ⟨w.heap.size, 0, none⟩) 2 2 ∧ RowR B wx 5 (.slice (some ⟨w.heap.size, 0, none⟩) 2 2) ([gF false, gF false].map FunD.row) ∧ B.n = w.heap.size ∧ Below w.heap.size w wx)) (fun i _ => K + 1 - (RowKit.intOf i).toNat)
  case atStart => exact ⟨0, by omega, rfl, HX⟩
  case round =>
    clear HX
    obtain ⟨k, hk, rfl, HX⟩ := hrel
    obtain ⟨B, D, G, hS, rfl, hfu, hF, hN, hB⟩ := HX.out
    have HS := hid hS
    have HN := hid hN
    have HB := hid hB
    have HF := hid hF
    have HU := hid hfu
    clear HX hS hN hB hF hfu
    rcases Nat.lt_or_ge k K with hlt | hge
    · have hlt' : (k : Int) + 1 < 1 + (K : Int) := by omega
      go_wp2_with fail
      refine (full_step (gen := false) (by simp [fK]; omega) HS.out HU.out HF.out).mono ?_
      rintro e w6 ⟨rfl, B6, D6, G6, hS6, hM6⟩
      have HX := hid (show ∃ B D G', St1 B w6 D G' (pf false (k + 1)) ∧ G'.at_ = G.at_ ∧ G'.funs = .slice (some ⟨w.heap.size, 0, none⟩) 2 2 ∧ RowR B w6 5 (.slice (some ⟨w.heap.size, 0, none⟩) 2 2) ([gF false, gF false].map FunD.row) ∧ B.n = w.heap.size ∧ Below w.heap.size w w6 from
        ⟨B6, D6, G6, hS6, hM6.at_, hM6.funs.trans HU.out, hM6.row HF.out, hM6.ext.hn.trans HN.out, HB.out.trans (hM6.low HS.out (Nat.le_of_eq HN.out.symm))⟩)
      clear hS6 hM6 HS HB HN HF HU
      go_wp2_with fail
      go_roundw
      case rel => exact ⟨k + 1, by omega, by go_num, HX⟩
      case measure => simp [RowKit.intOf]; omega
    · obtain rfl : k = K := by omega
      obtain ⟨h1, h2, h3⟩ := pf_plain k
      obtain ⟨g, fcap, efs, hgX, hc1, hc2⟩ := HS.out.ok.rowsOf h2
      obtain ⟨F, hF⟩ : ∃ F, (pf false k).frames[j]? = some F := ⟨_, List.getElem?_eq_getElem (by omega)⟩
      have c5 := HS.out.ok.c (k := 5) (u := .slice (some ⟨g, 0, none⟩) (k + 1) fcap) (by rw [← efs]; rfl)
      have HX := hid (show ∃ B D G', St1 B wr D G' (pt k j F 0) ∧ G'.at_ = G.at_ ∧ G'.fsl = .slice (some ⟨g, 0, none⟩) (k + 1) fcap ∧ B.n = w.heap.size ∧ Below w.heap.size w wr from ⟨B, D, G, by rw [pt_zero hF]; exact HS.out, rfl, efs, HN.out, HB.out⟩)
      have HFF := hid hF
      clear hF h1 h2 h3 HS HN HB HF HU efs hgX hge hk
      go_wp2_with fail
      clear c5
      go_loopw [15] (fun i wx => ∃ l : Nat, l ≤ m + 2 ∧ i = .int .i64 l ∧ Box (∃ B D G', St1 B wx D G' (pt k j F l) ∧ G'.at_ = G.at_ ∧ G'.fsl = .slice (some ⟨g, 0, none⟩) (k + 1) fcap ∧ B.n = w.heap.size ∧ Below w.heap.size w wx)) (fun i _ => m + 2 - (RowKit.intOf i).toNat)
      case atStart => exact ⟨0, by omega, rfl, HX⟩
      case round =>
        clear HX
        obtain ⟨l, hl, rfl, HX⟩ := hrel
        obtain ⟨B2, D2, G2, hS, hat, hfs, hN, hB⟩ := HX.out
        have HS := hid hS
        have HN := hid hN
        have HB := hid hB
        have HFS := hid hfs
        have HAT := hid hat
        clear HX hS hN hB
        have c5 := HS.out.ok.c (k := 5) (u := .slice (some ⟨g, 0, none⟩) (k + 1) fcap) (by rw [← hfs]; rfl)
        rw [hat] at c5
        rcases Nat.lt_or_ge l (m + 2) with hlt | hge
        · have hlt' : (l : Int) < (m : Int) + 2 := by omega
          obtain ⟨c, A, p, A', p', hc, ec, hcf, hvX, _⟩ := HS.out.ok.frameAt hfs (pt_at HFF.out)
          simp only [numsL_length] at ec hcf hvX
          have k6 := hcf 6 (.slice A l p) (by rw [ec]; rfl)
          have HC := hid hc
          have HEC := hid ec
          have HVX := hid hvX
          clear hc ec hcf hvX hfs hat
          have hjk : (j : Int) < (k : Int) + 1 := by omega
          go_upto_region 16 with fail
          refine wp_region_until [23] (S := (fun w' => w'.cell? ⟨G.at_, 5, none⟩ = some (.slice (some ⟨g, 0, none⟩) (k + 1) fcap) ∧ w'.cell? ⟨g, j * 9 + 6, none⟩ = some (.slice A l p))) (by kernel_rfl) ?_ ?_
          · exact ⟨c5, k6⟩
          intro hS
          refine wpAnyU_take (i := 0) (v := (.pointer (some ⟨G.at_, 0, none⟩))) rfl (by kernel_rfl) (fun _ _ _ h => h) (leads_of [[23]] (by kernel_rfl)) (by kernel_rfl) (by kernel_rfl) (by kernel_rfl) (Or.inl ⟨by rfl, ?_⟩) hS ?_
          · intro w' hS'
            obtain ⟨s0, s1⟩ := hS'
            go_simp
          change wpAnyU _ _ _ _ _ _ _ _ (Act.put _ (some 66) _) _
          simp only [Act.put, List.setIfInBounds_toArray, List.set_cons_succ, List.set_cons_zero]
          refine wpAnyU_take (i := 1) (v := (.pointer (some ⟨G.at_, 0, none⟩))) rfl (by kernel_rfl) (fun _ _ _ h => h) (leads_of [[23]] (by kernel_rfl)) (by kernel_rfl) (by kernel_rfl) (by kernel_rfl) (Or.inl ⟨by rfl, ?_⟩) hS ?_
          · intro w' hS'
            obtain ⟨s0, s1⟩ := hS'
            go_simp
          change wpAnyU _ _ _ _ _ _ _ _ (Act.put _ (some 67) _) _
          simp only [Act.put, List.setIfInBounds_toArray, List.set_cons_succ, List.set_cons_zero]
          refine wpAnyU_take (i := 2) (v := (.pointer (some ⟨G.at_, 1, none⟩))) rfl (by kernel_rfl) (fun _ _ _ h => h) (leads_of [[23]] (by kernel_rfl)) (by kernel_rfl) (by kernel_rfl) (by kernel_rfl) (Or.inl ⟨by rfl, ?_⟩) hS ?_
          · intro w' hS'
            obtain ⟨s0, s1⟩ := hS'
            go_simp
          change wpAnyU _ _ _ _ _ _ _ _ (Act.put _ (some 68) _) _
          simp only [Act.put, List.setIfInBounds_toArray, List.set_cons_succ, List.set_cons_zero]
          refine wpAnyU_take (i := 3) (v := (.pointer (some ⟨G.at_, 5, none⟩))) rfl (by kernel_rfl) (fun _ _ _ h => h) (leads_of [[23]] (by kernel_rfl)) (by kernel_rfl) (by kernel_rfl) (by kernel_rfl) (Or.inl ⟨by rfl, ?_⟩) hS ?_
          · intro w' hS'
            obtain ⟨s0, s1⟩ := hS'
            go_simp
          change wpAnyU _ _ _ _ _ _ _ _ (Act.put _ (some 69) _) _
          simp only [Act.put, List.setIfInBounds_toArray, List.set_cons_succ, List.set_cons_zero]
          refine wpAnyU_take (i := 4) (v := (.slice (some ⟨g, 0, none⟩) (k + 1) fcap)) rfl (by kernel_rfl) (fun _ _ _ h => h) (leads_of [[23]] (by kernel_rfl)) (by kernel_rfl) (by kernel_rfl) (by kernel_rfl) (Or.inl ⟨by rfl, ?_⟩) hS ?_
          · intro w' hS'
            obtain ⟨s0, s1⟩ := hS'
            go_simp
          change wpAnyU _ _ _ _ _ _ _ _ (Act.put _ (some 70) _) _
          simp only [Act.put, List.setIfInBounds_toArray, List.set_cons_succ, List.set_cons_zero]
          refine wpAnyU_take (i := 5) (v := (.int .i64 (j : Nat))) rfl (by kernel_rfl) (fun _ _ _ h => h) (leads_of [[23]] (by kernel_rfl)) (by kernel_rfl) (by kernel_rfl) (by kernel_rfl) (Or.inl ⟨by rfl, ?_⟩) hS ?_
          · intro w' hS'
            obtain ⟨s0, s1⟩ := hS'
            go_simp
          change wpAnyU _ _ _ _ _ _ _ _ (Act.put _ (some 71) _) _
          simp only [Act.put, List.setIfInBounds_toArray, List.set_cons_succ, List.set_cons_zero]
          refine wpAnyU_take (i := 7) (v := (.pointer (some ⟨G.at_, 0, none⟩))) rfl (by kernel_rfl) (fun _ _ _ h => h) (leads_of [[23]] (by kernel_rfl)) (by kernel_rfl) (by kernel_rfl) (by kernel_rfl) (Or.inl ⟨by rfl, ?_⟩) hS ?_
          · intro w' hS'
            obtain ⟨s0, s1⟩ := hS'
            go_simp
          change wpAnyU _ _ _ _ _ _ _ _ (Act.put _ (some 73) _) _
          simp only [Act.put, List.setIfInBounds_toArray, List.set_cons_succ, List.set_cons_zero]
          refine wpAnyU_take (i := 8) (v := (.pointer (some ⟨G.at_, 0, none⟩))) rfl (by kernel_rfl) (fun _ _ _ h => h) (leads_of [[23]] (by kernel_rfl)) (by kernel_rfl) (by kernel_rfl) (by kernel_rfl) (Or.inl ⟨by rfl, ?_⟩) hS ?_
          · intro w' hS'
            obtain ⟨s0, s1⟩ := hS'
            go_simp
          change wpAnyU _ _ _ _ _ _ _ _ (Act.put _ (some 74) _) _
          simp only [Act.put, List.setIfInBounds_toArray, List.set_cons_succ, List.set_cons_zero]
          refine wpAnyU_take (i := 9) (v := (.pointer (some ⟨G.at_, 1, none⟩))) rfl (by kernel_rfl) (fun _ _ _ h => h) (leads_of [[23]] (by kernel_rfl)) (by kernel_rfl) (by kernel_rfl) (by kernel_rfl) (Or.inl ⟨by rfl, ?_⟩) hS ?_
          · intro w' hS'
            obtain ⟨s0, s1⟩ := hS'
            go_simp
          change wpAnyU _ _ _ _ _ _ _ _ (Act.put _ (some 75) _) _
          simp only [Act.put, List.setIfInBounds_toArray, List.set_cons_succ, List.set_cons_zero]
          refine wpAnyU_take (i := 10) (v := (.pointer (some ⟨G.at_, 5, none⟩))) rfl (by kernel_rfl) (fun _ _ _ h => h) (leads_of [[23]] (by kernel_rfl)) (by kernel_rfl) (by kernel_rfl) (by kernel_rfl) (Or.inl ⟨by rfl, ?_⟩) hS ?_
          · intro w' hS'
            obtain ⟨s0, s1⟩ := hS'
            go_simp
          change wpAnyU _ _ _ _ _ _ _ _ (Act.put _ (some 76) _) _
          simp only [Act.put, List.setIfInBounds_toArray, List.set_cons_succ, List.set_cons_zero]
          refine wpAnyU_take (i := 11) (v := (.slice (some ⟨g, 0, none⟩) (k + 1) fcap)) rfl (by kernel_rfl) (fun _ _ _ h => h) (leads_of [[23]] (by kernel_rfl)) (by kernel_rfl) (by kernel_rfl) (by kernel_rfl) (Or.inl ⟨by rfl, ?_⟩) hS ?_
          · intro w' hS'
            obtain ⟨s0, s1⟩ := hS'
            go_simp
          change wpAnyU _ _ _ _ _ _ _ _ (Act.put _ (some 77) _) _
          simp only [Act.put, List.setIfInBounds_toArray, List.set_cons_succ, List.set_cons_zero]
          refine wpAnyU_take (i := 12) (v := (.int .i64 (j : Nat))) rfl (by kernel_rfl) (fun _ _ _ h => h) (leads_of [[23]] (by kernel_rfl)) (by kernel_rfl) (by kernel_rfl) (by kernel_rfl) (Or.inl ⟨by rfl, ?_⟩) hS ?_
          · intro w' hS'
            obtain ⟨s0, s1⟩ := hS'
            go_simp
          change wpAnyU _ _ _ _ _ _ _ _ (Act.put _ (some 78) _) _
          simp only [Act.put, List.setIfInBounds_toArray, List.set_cons_succ, List.set_cons_zero]
          refine wpAnyU_take (i := 13) (v := (.pointer (some ⟨g, j * 9, none⟩))) rfl (by kernel_rfl) (fun _ _ _ h => h) (leads_of [[23]] (by kernel_rfl)) (by kernel_rfl) (by kernel_rfl) (by kernel_rfl) (Or.inl ⟨by rfl, ?_⟩) hS ?_
          · intro w' hS'
            obtain ⟨s0, s1⟩ := hS'
            go_simp
          change wpAnyU _ _ _ _ _ _ _ _ (Act.put _ (some 79) _) _
          simp only [Act.put, List.setIfInBounds_toArray, List.set_cons_succ, List.set_cons_zero]
          refine wpAnyU_take (i := 14) (v := (.pointer (some ⟨g, j * 9 + 6, none⟩))) rfl (by kernel_rfl) (fun _ _ _ h => h) (leads_of [[23]] (by kernel_rfl)) (by kernel_rfl) (by kernel_rfl) (by kernel_rfl) (Or.inl ⟨by rfl, ?_⟩) hS ?_
          · intro w' hS'
            obtain ⟨s0, s1⟩ := hS'
            go_simp
          change wpAnyU _ _ _ _ _ _ _ _ (Act.put _ (some 80) _) _
          simp only [Act.put, List.setIfInBounds_toArray, List.set_cons_succ, List.set_cons_zero]
          refine wpAnyU_take (i := 15) (v := (.slice A l p)) rfl (by kernel_rfl) (fun _ _ _ h => h) (leads_of [[23]] (by kernel_rfl)) (by kernel_rfl) (by kernel_rfl) (by kernel_rfl) (Or.inl ⟨by rfl, ?_⟩) hS ?_
          · intro w' hS'
            obtain ⟨s0, s1⟩ := hS'
            go_simp
          change wpAnyU _ _ _ _ _ _ _ _ (Act.put _ (some 81) _) _
          simp only [Act.put, List.setIfInBounds_toArray, List.set_cons_succ, List.set_cons_zero]
          refine wpAnyU_take (i := 17) (v := (.int .i64 (l : Nat))) rfl (by kernel_rfl) (fun _ _ _ h => h) (leads_of [[23]] (by kernel_rfl)) (by kernel_rfl) (by kernel_rfl) (by kernel_rfl) (Or.inl ⟨by rfl, ?_⟩) hS ?_
          · intro w' hS'
            obtain ⟨s0, s1⟩ := hS'
            go_simp
          change wpAnyU _ _ _ _ _ _ _ _ (Act.put _ (some 83) _) _
          simp only [Act.put, List.setIfInBounds_toArray, List.set_cons_succ, List.set_cons_zero]
          refine wpAnyU_all (rs := [6]) (by kernel_rfl) (by simp) ?_
          intro j hj
          obtain rfl := List.mem_singleton.1 hj
          clear hj
          refine wpOp_shut rfl (fun K' HK => ?_)
          go_simp
          have HB6 := hid (below_drew ((Below.refl wr.drew.heap.size wr.drew).alloc (Nat.le_refl _) (.cells #[] 33)))
          have r6 := heap_alloc_new wr.drew (.cells #[] 33)
          refine HK.out _ _ ⟨.inr ?_, ?_⟩
          · exact ⟨keepc HB6.out c5, keepc HB6.out k6⟩
          clear HK K'
          have hS := And.intro (keepc HB6.out c5) (keepc HB6.out k6)
          try simp only [Act.put, List.setIfInBounds_toArray, List.set_cons_succ, List.set_cons_zero]
          refine wpAnyU_all (rs := [16]) (by kernel_rfl) (by simp) ?_
          intro j hj
          obtain rfl := List.mem_singleton.1 hj
          clear hj
          refine wpOp_shut rfl (fun K' HK => ?_)
          have HOe := hid (own_of_block (n := 0) (sz := 3) r6 rfl (by decide))
          have HX6 := hid (HVX.out.keep (Ext.refl B2 wr.heap.size) (fun k hk => HB6.out.block k (HVX.out.typ hk).1.lt))
          refine step_copy2 _ (by rfl) (.tmp 72) (.tmp 81) 31 (by rfl) wr.heap.size 33 i0 (.agg #[.int .i64 0, .int .i64 0, .string ByteArray.empty]) 3 32 Try.underlying31 HI.out hz0 hz1 hz2 rfl (by decide) wr.heap.size ?c1 ?c2 A l p ((numsL l).map VD.row).flatten ?c3 ?c4 ?c5 ?c6 ?c7 ?c8 ?c9 ?c10 ?_
          (case c1 => rfl)
          (case c2 => exact HOe.out)
          (case c3 => rfl)
          (case c4 => rw [flat_length _ VD.row_len, List.length_map, numsL_length])
          (case c5 => exact fun ad e q u hu => by subst e; obtain ⟨ga, _, ea, _⟩ := HX6.out.own.form (by rw [List.length_map, numsL_length]; exact Nat.pos_of_ne_zero (fun e0 => by subst e0; simp [numsL] at hu)); injection ea with ea; injection ea with ea; subst ea; exact HX6.out.own.cells rfl q u hu)
          (case c6 => exact fun e => by subst e; rcases HX6.out.own.2 with ⟨e, h0⟩ | ⟨_, _, _, e, _⟩; (have := h0; rw [List.length_map, numsL_length] at this; exact this); (injection e with e; cases e))
          (case c7 => intro u hu; obtain ⟨c, hc, hu⟩ := List.mem_flatten.1 hu; obtain ⟨v, _, rfl⟩ := List.mem_map.1 hc; simp only [VD.row, List.mem_cons, List.not_mem_nil, or_false] at hu; rcases hu with rfl | rfl | rfl <;> rfl)
          (case c8 => unfold maxLen; omega)
          (case c9 => omega)
          (case c10 => exact HB6.out.size)
          intro ga capa w16 ho16 hg16 hgl16 hlt16
          have HB16 := hid (HB6.out.grown hg16 HB6.out.size (fun x hx => by injection hx with hx; omega))
          have HO16 := hid ho16
          clear ho16 hg16 hgl16 hlt16
          refine HK.out _ _ ⟨.inr ?_, ?_⟩
          · exact ⟨keepc HB16.out c5, keepc HB16.out k6⟩
          clear HK K'
          have hS := And.intro (keepc HB16.out c5) (keepc HB16.out k6)
          change wpAnyU _ _ _ _ _ _ _ _ (Act.put _ (some 82) _) _
          simp only [Act.put, List.setIfInBounds_toArray, List.set_cons_succ, List.set_cons_zero]
          refine wpAnyU_all (rs := [18]) (by kernel_rfl) (by simp) ?_
          intro j hj
          obtain rfl := List.mem_singleton.1 hj
          clear hj
          refine wpOp_shut rfl (fun K' HK => ?_)
          refine step_call rfl (f := 15) rfl Try.func15 (by kernel_rfl) rfl #[.int .i64 (l : Nat)] (by simp only [List.map_toArray, List.map_cons, List.map_nil]; rfl) ?_
          refine (rnumM_c (l : Nat)).mono ?_
          rintro e w18 ⟨rfl, hb18⟩
          refine ⟨_, rfl, ?_⟩
          have HB18 := hid (HB16.out.trans (hb18.mono HB16.out.size))
          have HO18 := hid (own_move HO16.out (fun k hk => hb18.block k (HO16.out.lt k hk).2))
          clear hb18
          refine HK.out _ _ ⟨.inr ?_, ?_⟩
          · exact ⟨keepc HB18.out c5, keepc HB18.out k6⟩
          clear HK K'
          have hS := And.intro (keepc HB18.out c5) (keepc HB18.out k6)
          change wpAnyU _ _ _ _ _ _ _ _ (Act.put _ (some 84) _) _
          simp only [Act.put, List.setIfInBounds_toArray, List.set_cons_succ, List.set_cons_zero]
          refine wpAnyU_all (rs := [19]) (by kernel_rfl) (by simp) ?_
          intro j hj
          obtain rfl := List.mem_singleton.1 hj
          clear hj
          refine wpOp_shut rfl (fun K' HK => ?_)
          go_simp
          have HB19 := hid (HB18.out.trans (((Below.refl w18.heap.size w18).alloc (Nat.le_refl _) (.cells #[.int .i64 3, .int .i64 (l : Nat), .string ByteArray.empty] 33)).mono HB18.out.size))
          have r19 := heap_alloc_new w18 (.cells #[.int .i64 3, .int .i64 (l : Nat), .string ByteArray.empty] 33)
          have HO19 := hid (HO18.out.alloc (.cells #[.int .i64 3, .int .i64 (l : Nat), .string ByteArray.empty] 33))
          refine HK.out _ _ ⟨.inr ?_, ?_⟩
          · exact ⟨keepc HB19.out c5, keepc HB19.out k6⟩
          clear HK K'
          have hS := And.intro (keepc HB19.out c5) (keepc HB19.out k6)
          try simp only [Act.put, List.setIfInBounds_toArray, List.set_cons_succ, List.set_cons_zero]
          refine wpAnyU_all (rs := [20]) (by kernel_rfl) (by simp) ?_
          intro j hj
          obtain rfl := List.mem_singleton.1 hj
          clear hj
          refine wpOp_shut rfl (fun K' HK => ?_)
          refine step_append_lies _ (by rfl) (.tmp 82) (.tmp 85) 31 (by rfl) wr.heap.size 33 i0 (.agg #[.int .i64 0, .int .i64 0, .string ByteArray.empty]) 3 32 Try.underlying31 HI.out hz0 hz1 hz2 rfl (by decide) (.slice (some ⟨ga, 0, none⟩) l capa) l ((numsL l).map VD.row).flatten ?d1 ?d2 ⟨w18.heap.size, 0, none⟩ 1 1 (numV (l : Nat)).row ?d3 rfl ?d4 ?d5 (by decide) ?d6 ?d7 ?d8 _ rfl ?_
          (case d1 => rfl)
          (case d2 => exact HO19.out)
          (case d3 => rfl)
          (case d4 => exact World.news_of_block r19)
          (case d5 => simp [numV, VD.row, Value.oneCell'])
          (case d6 => unfold maxLen; omega)
          (case d7 => omega)
          (case d8 => exact HB19.out.size)
          intro gb capb w20 ho20 hg20 hgl20 hlt20
          have HB20 := hid (HB19.out.grown hg20 HB19.out.size (fun x hx => (HO19.out.lt x hx).1))
          have HO20 := hid ho20
          have HL20 := hid hlt20
          clear ho20 hg20 hgl20 hlt20
          have m0 := keepc HB20.out k6
          have m1 : w20.frozen? ⟨g, j * 9 + 6, none⟩ = false := by
            have h1 := (HS.out.below HB20.out).ok.fr
            rw [HFS.out] at h1
            exact xr_frozen h1 _
          refine HK.out _ _ ⟨.inr ?_, ?_⟩
          · exact ⟨keepc HB20.out c5, keepc HB20.out k6⟩
          clear HK K'
          have hS := And.intro (keepc HB20.out c5) (keepc HB20.out k6)
          change wpAnyU _ _ _ _ _ _ _ _ (Act.put _ (some 86) _) _
          simp only [Act.put, List.setIfInBounds_toArray, List.set_cons_succ, List.set_cons_zero]
          refine wpAnyU_take (i := 21) (v := (.pointer (some ⟨g, j * 9, none⟩))) rfl (by kernel_rfl) (fun _ _ _ h => h) (leads_of [[22, 23]] (by kernel_rfl)) (by kernel_rfl) (by kernel_rfl) (by kernel_rfl) (Or.inl ⟨by rfl, ?_⟩) hS ?_
          · intro w' hS'
            obtain ⟨s0, s1⟩ := hS'
            go_simp
          change wpAnyU _ _ _ _ _ _ _ _ (Act.put _ (some 87) _) _
          simp only [Act.put, List.setIfInBounds_toArray, List.set_cons_succ, List.set_cons_zero]
          refine wpAnyU_take (i := 22) (v := (.pointer (some ⟨g, j * 9 + 6, none⟩))) rfl (by kernel_rfl) (fun _ _ _ h => h) (leads_of [[23]] (by kernel_rfl)) (by kernel_rfl) (by kernel_rfl) (by kernel_rfl) (Or.inl ⟨by rfl, ?_⟩) hS ?_
          · intro w' hS'
            obtain ⟨s0, s1⟩ := hS'
            go_simp
          change wpAnyU _ _ _ _ _ _ _ _ (Act.put _ (some 88) _) _
          simp only [Act.put, List.setIfInBounds_toArray, List.set_cons_succ, List.set_cons_zero]
          refine wpAnyU_all (rs := [23]) (by kernel_rfl) (by simp) ?_
          intro j hj
          obtain rfl := List.mem_singleton.1 hj
          clear hj
          refine wpOp_shut rfl (fun K' HK => ?_)
          go_simp
          refine HK.out _ _ ⟨.inl (by decide), ?_⟩
          clear HK K'
          refine wpAnyU_done (by kernel_rfl) ?_ _
          have hnv := Sta.newVals HS.out (w1 := w20) (l := numsL (l + 1)) HFS.out HC.out (pt_at HFF.out) (numsL_length _) (by rw [numsL_succ, List.map_append, List.flatten_append]; have := own_lower HO20.out (base' := B2) HS.out.le; simpa using this) (grownBy_below HB20.out _) (.inr (HO20.out.lt gb rfl).1) HL20.out
          have HX := hid (show ∃ B D G', St1 B (w20.setCell ⟨g, j * 9 + 6, none⟩ (.slice (some ⟨gb, 0, none⟩) (l + 1) capb)) D G' (pt k j F (l + 1)) ∧ G'.at_ = G.at_ ∧ G'.fsl = .slice (some ⟨g, 0, none⟩) (k + 1) fcap ∧ B.n = w.heap.size ∧ Below w.heap.size w (w20.setCell ⟨g, j * 9 + 6, none⟩ (.slice (some ⟨gb, 0, none⟩) (l + 1) capb)) from ⟨B2.plus gb, D2, { G2 with rows := G2.rows.set j (c.set 6 (.slice (some ⟨gb, 0, none⟩) (l + 1) capb)) }, (by have := hnv.1; rw [pt_set] at this; exact this), HAT.out, HFS.out, HN.out, HB.out.trans (hnv.2.low HS.out (Nat.le_of_eq HN.out.symm))⟩)
          clear hnv m0 m1 c5 k6 hS HS HB HN HC HEC HVX HFS HAT
          go_wp2_with fail
          go_roundw
          case rel => exact ⟨l + 1, by omega, by go_num, HX⟩
          case measure => simp [RowKit.intOf]; omega
        · obtain rfl : l = m + 2 := by omega
          clear hge hl hat
          cases has
          · have hthr : PS.thr (pt k j F (m + 2)) := by
              obtain ⟨h1, h2, h3⟩ := pf_plain k
              refine ⟨by show (pf false k).cells.length ≤ 4096; omega, by show ((pf false k).frames.set j _).length ≤ 100000; rw [List.length_set]; omega, fun F' hF' => ?_⟩
              have hFm := List.mem_of_getElem? HFF.out
              rcases List.mem_or_eq_of_mem_set hF' with hF' | rfl
              · obtain ⟨e1, e2⟩ := h3 F' hF'
                rw [e1, e2]
                exact ⟨.inl (pf_gen0 k F' hF'), by decide, by decide, fun t ht => by cases ht⟩
              · refine ⟨.inl (pf_gen0 k F hFm), by rw [numsL_length]; omega, ?_⟩
                show F.tries.length ≤ 100000 ∧ ∀ t ∈ F.tries, _
                rw [(h3 F hFm).2]
                exact ⟨by decide, fun t ht => by cases ht⟩
            have HTR := hid hthr
            clear hthr
            go_wp2_with fail
            refine (rstrL_c ⟨#[116]⟩).mono ?_
            rintro e w5 ⟨rfl, hb5⟩
            have HS5 := hid (HS.out.below hb5)
            have HB5 := hid (HB.out.trans (hb5.mono HB.out.size))
            clear hb5 c5 HS HB
            go_wp2_with fail
            have hlen : (pt k j F (m + 2)).frames.length = k + 1 := by show ((pf false k).frames.set j _).length = k + 1; rw [List.length_set]; exact (pf_plain k).2.1
            have hth := throw_c (v := ⟨4, 0, ⟨#[116]⟩⟩) HS5.out (by simp) HTR.out hlen (Nat.succ_pos k)
            rw [HAT.out] at hth
            have hnone : ∀ F' ∈ (pt k j F (m + 2)).frames, F'.tries = [] ∧ F'.gen = 0 := fun F' hF' => by
              rcases List.mem_or_eq_of_mem_set hF' with hF' | rfl
              · exact ⟨((pf_plain k).2.2 F' hF').2, pf_gen0 k F' hF'⟩
              · exact ⟨((pf_plain k).2.2 F (List.mem_of_getElem? HFF.out)).2, pf_gen0 k F (List.mem_of_getElem? HFF.out)⟩
            rw [throw_none _ _ _ hlen hnone] at hth
            refine hth.mono ?_
            clear hth hnone hlen
            rintro e w6 ⟨he, B6, D6, G6, hS6, hM6⟩
            obtain rfl : e = .returned (.tuple #[.agg #[.int .i64 4, .int .i64 0, .string ⟨#[116]⟩], .bool true]) := he
            have HB6 := hid (HB5.out.trans (hM6.low HS5.out (Nat.le_of_eq HN.out.symm)))
            have hat6 : G6.at_ = G.at_ := hM6.at_.trans HAT.out
            obtain ⟨A6, cap6, ef⟩ := hS6.ok.fr.slice
            rw [hS6.ok.len] at ef
            have l6 : G.at_ < w6.heap.size := by rw [← hat6]; exact (hS6.ok.foot_lt (.inl rfl)).1
            have y5 := hS6.ok.c (k := 5) (u := .slice A6 0 cap6) (by rw [show (Value.slice A6 0 cap6) = G6.fsl from ef.symm]; rfl)
            rw [hat6] at y5
            clear ef hat6 hS6 hM6 HS5 HB5
            go_upto_region 21 with fail
            have hbX : Below w6.heap.size w6 (w6.alloc (.cells #[.int .i64 4, .int .i64 0, .string ⟨#[116]⟩] 33)) := (Below.refl _ _).alloc (Nat.le_refl _) _
            have rX := heap_alloc_new w6 (.cells #[.int .i64 4, .int .i64 0, .string ⟨#[116]⟩] 33)
            have x0 := ov_row rX 0 rfl
            have x1 := ov_row rX 1 rfl
            have x2 := ov_row rX 2 (v := .string ⟨#[116]⟩) rfl
            have x5 := ov_cell (Nat.lt_of_lt_of_le l6 hbX.size) (keepc hbX y5)
            have HBX := hid (HB6.out.trans (hbX.mono HB6.out.size))
            generalize (w6.alloc (.cells #[.int .i64 4, .int .i64 0, .string ⟨#[116]⟩] 33)) = W7 at x0 x1 x2 x5 HBX ⊢
            clear hbX rX y5 HB6
            refine wp_region_over_lit (by kernel_rfl) (by kernel_rfl) ?_
            repeat (first
              | go_big_quiet_step ((first | (go_at_call 17; exact calls_over (rstrL_c ⟨#[116]⟩)) | (go_at_call 20; exact calls_over (awake16_c _)))))
            refine wpQuiet_nil ?_
            intro W' hW'
            obtain ⟨x, rfl⟩ := hW'
            have HBx := hid (HBX.out.trans ((ov_below x).mono HBX.out.size))
            clear x0 x1 x2 x5 HBX
            go_wp2_with fail
            go_ret
            exact ⟨rfl, HBx.out⟩
          · obtain ⟨c, A, p, A', p', hc, ec, hcf, hvX, _⟩ := HS.out.ok.frameAt hfs (pt_at HFF.out)
            have k7 := hcf 7 (.slice A' F.tries.length p') (by rw [ec]; rfl)
            have f7 : wr.frozen? ⟨g, j * 9 + 7, none⟩ = false := by
              have h1 := HS.out.ok.fr
              rw [HFS.out] at h1
              exact xr_frozen h1 _
            have lg : g < wr.heap.size := block_lt_of_cell k7
            have hbA : Below wr.heap.size wr (wr.alloc (.cells #[.int .i64 5, .int .i64 0, .int .i64 1, .int .i64 7, .int .i64 (m : Nat), .int .i64 1] 57)) := (Below.refl _ _).alloc (Nat.le_refl _) _
            have hrA := heap_alloc_new wr (.cells #[.int .i64 5, .int .i64 0, .int .i64 1, .int .i64 7, .int .i64 (m : Nat), .int .i64 1] 57)
            have HT := hid (RowR.of_own (B := B2) (rows := [TrD.row ⟨5, 0, 1⟩, TrD.row ⟨7, (m : Nat), 1⟩]) (own_of_block (n := 2) (sz := 3) hrA rfl (by decide)) (by decide) (fun k hk => HS.out.h.fam.fresh k hk) (by simp [TrD.row]) rfl)
            have HSA := hid (HS.out.below hbA)
            have k7' := keepc hbA k7
            have f7' : (wr.alloc (.cells #[.int .i64 5, .int .i64 0, .int .i64 1, .int .i64 7, .int .i64 (m : Nat), .int .i64 1] 57)).frozen? ⟨g, j * 9 + 7, none⟩ = false := by
              have h1 := HSA.out.ok.fr
              rw [HFS.out] at h1
              exact xr_frozen h1 _
            have HBA := hid (HB.out.trans (hbA.mono HB.out.size))
            have hjk : (j : Int) < (k : Int) + 1 := by omega
            have HC := hid hc
            have HEC := hid ec
            clear hc ec hcf hvX k7 f7 hrA hbA HS HB
            go_upto_region 18 with fail
            go_upto_region 19 with fail
            rw [← World.setCell_alloc_past _ _ _ _ lg]
            have hs := HSA.out.frSet HFS.out HC.out (k := 7) (u := .slice (some ⟨wr.heap.size, 0, none⟩) 2 2) (by decide) (F' := { F with vals := numsL (m + 2), tries := [⟨5, 0, 1⟩, ⟨7, (m : Nat), 1⟩] }) ((HSA.out.ok.row j _ c (pt_at HFF.out) HC.out).trSet (l := [⟨5, 0, 1⟩, ⟨7, (m : Nat), 1⟩]) HT.out) (fun b hb => by rw [valsOf_set (by decide)] at hb; exact hb)
            have HB7 := hid (HBA.out.trans (hs.2.low HSA.out (Nat.le_of_eq HN.out.symm)))
            have HS7 := hid hs.1
            have hsz : (wr.alloc (.cells #[.int .i64 5, .int .i64 0, .int .i64 1, .int .i64 7, .int .i64 (m : Nat), .int .i64 1] 57)).heap.size = wr.heap.size + 1 := by simp
            clear hs HT k7' f7' HSA HBA hsz
            generalize ((wr.alloc (.cells #[.int .i64 5, .int .i64 0, .int .i64 1, .int .i64 7, .int .i64 (m : Nat), .int .i64 1] 57)).setCell ⟨g, j * 9 + 7, none⟩ (.slice (some ⟨wr.heap.size, 0, none⟩) 2 2)) = W7 at HS7 HB7 ⊢
            obtain ⟨Fd, eFd⟩ : ∃ Fd : FrD, Fd = { F with vals := numsL (m + 2), tries := [⟨5, 0, 1⟩, ⟨7, (m : Nat), 1⟩] } := ⟨_, rfl⟩
            obtain ⟨P7, eP7⟩ : ∃ P7 : PS, P7 = { pt k j F (m + 2) with frames := (pt k j F (m + 2)).frames.set j Fd } := ⟨_, rfl⟩
            have hP7 : P7.frames = (pf false k).frames.set j Fd := by rw [eP7]; simp only [pt, List.set_set]
            have hlen : P7.frames.length = k + 1 := by rw [hP7, List.length_set]; exact (pf_plain k).2.1
            have hjF : P7.frames[j]? = some Fd := by rw [hP7]; exact List.getElem?_set_self (by rw [(pf_plain k).2.1]; exact hj)
            have hFm := List.mem_of_getElem? HFF.out
            have hthr : PS.thr P7 := by
              obtain ⟨h1, h2, h3⟩ := pf_plain k
              refine ⟨by rw [eP7]; show (pf false k).cells.length ≤ 4096; omega, by omega, fun F' hF' => ?_⟩
              rw [hP7] at hF'
              have hcl : P7.cells.length = (pf false k).cells.length := by rw [eP7]; rfl
              rcases List.mem_or_eq_of_mem_set hF' with hF' | rfl
              · obtain ⟨e1, e2⟩ := h3 F' hF'
                rw [e1, e2]
                exact ⟨.inl (pf_gen0 k F' hF'), by decide, by decide, fun t ht => by cases ht⟩
              · rw [eFd]
                refine ⟨.inl (pf_gen0 k F hFm), by show (numsL (m + 2)).length ≤ 100000; rw [numsL_length]; omega, by simp, fun t ht => ?_⟩
                simp only [List.mem_cons, List.not_mem_nil, or_false] at ht
                rcases ht with rfl | rfl
                · exact ⟨Int.le_refl _, by decide⟩
                · exact ⟨by simp, by show (m : Int) ≤ 1000000; omega⟩
            have hres : P7.throw ⟨4, 0, ⟨#[116]⟩⟩ (k + 1) = ({ P7 with frames := (P7.frames.take (j + 1)).set j (tryTo Fd [⟨5, 0, 1⟩] ⟨7, (m : Nat), 1⟩ ⟨4, 0, ⟨#[116]⟩⟩) }, false) := by
              refine throw_down _ (ts := [⟨5, 0, 1⟩]) (by rw [eFd]; rfl) _ _ hlen hjF (fun i F' hi hF' => ?_)
              rw [hP7, List.getElem?_set_ne (Ne.symm hi)] at hF'
              exact ⟨((pf_plain k).2.2 F' (List.mem_of_getElem? hF')).2, pf_gen0 k F' (List.mem_of_getElem? hF')⟩
            have HTR := hid hthr
            have HLEN := hid hlen
            have HRES := hid hres
            have HJF := hid hjF
            have HEF := hid eFd
            obtain ⟨G7, eG7⟩ : ∃ G7 : SG, G7 = { G2 with rows := G2.rows.set j (c.set 7 (.slice (some ⟨wr.heap.size, 0, none⟩) 2 2)) } := ⟨_, rfl⟩
            have HS8 : Box (St1 B2 W7 D2 G7 P7) := hid (by rw [eP7, eFd, eG7]; exact HS7.out)
            have HAT7 := hid (show G7.at_ = G.at_ by rw [eG7]; exact HAT.out)
            clear hthr hlen hres hjF eFd eP7 hP7 HS7 c5 hfs hFm eG7
            go_wp2_with fail
            refine (rstrL_c ⟨#[116]⟩).mono ?_
            rintro e w8 ⟨rfl, hb8⟩
            have HS9 := hid (HS8.out.below hb8)
            have HB9 := hid (HB7.out.trans (hb8.mono HB7.out.size))
            clear hb8 HS8 HB7
            go_wp2_with fail
            have hth := throw_c (v := ⟨4, 0, ⟨#[116]⟩⟩) HS9.out (by simp) HTR.out HLEN.out (Nat.succ_pos k)
            rw [HAT7.out, HRES.out] at hth
            refine hth.mono ?_
            clear hth
            rintro e w10 ⟨he, B10, D10, G10, hS10, hM10⟩
            obtain rfl : e = .returned (.tuple #[.agg #[.int .i64 0, .int .i64 0, .string ⟨#[]⟩], .bool false]) := he
            have HB10 := hid (HB9.out.trans (hM10.low HS9.out (Nat.le_of_eq HN.out.symm)))
            have hat10 : G10.at_ = G.at_ := hM10.at_.trans HAT7.out
            obtain ⟨Fj, eFj⟩ : ∃ Fj : FrD, Fj = tryTo Fd [⟨5, 0, 1⟩] ⟨7, (m : Nat), 1⟩ ⟨4, 0, ⟨#[116]⟩⟩ := ⟨_, rfl⟩
            rw [← eFj] at hS10
            have hl10 : ((P7.frames.take (j + 1)).set j Fj).length = j + 1 := by rw [List.length_set, List.length_take, HLEN.out]; omega
            have hj10 : ((P7.frames.take (j + 1)).set j Fj)[j]? = some Fj := List.getElem?_set_self (by rw [List.length_take, HLEN.out]; omega)
            obtain ⟨g10, cap10, ef10, _, hcA, hcB⟩ := hS10.ok.rowsOf (m := j) hl10
            obtain ⟨c10, Av, pv, At, pt', _, ec10, hcf10, hvX10, htR10⟩ := hS10.ok.frameAt ef10 hj10
            have hvl : Fj.vals = (numsL (m + 2)).take m ++ [⟨4, 0, ⟨#[116]⟩⟩] := by rw [eFj, HEF.out]; simp [tryTo]
            have hvn : Fj.vals.length = m + 1 := by rw [hvl]; simp [numsL_length]
            have hvm : Fj.vals[m]? = some ⟨4, 0, ⟨#[116]⟩⟩ := by rw [hvl, List.getElem?_append_right (by simp [numsL_length])]; simp [numsL_length]
            have htl : Fj.tries = [⟨5, 0, 1⟩] := by rw [eFj]; rfl
            have hpc : Fj.pc = 7 := by rw [eFj]; rfl
            have hsc : Fj.scope = 1 := by rw [eFj]; rfl
            obtain ⟨bv, ov', eAv, v0, v1, v2⟩ := hvX10.here.val_get.2 m _ hvm
            rw [hvn, htl] at ec10
            rw [htl] at htR10
            obtain ⟨At', n', p', e1, _, _, _, _, h6⟩ := htR10
            injection e1 with e1 e2 e3
            subst e1 e2 e3
            obtain ⟨bt, ot, eAt, _, hct⟩ := h6 (by decide)
            have t0 := (hct 0 _ rfl).2 0 (.int .i64 5) rfl
            subst eAv eAt
            have l10 : G.at_ < w10.heap.size := by rw [← hat10]; exact (hS10.ok.foot_lt (.inl rfl)).1
            have y5 := hS10.ok.c (k := 5) (u := .slice (some ⟨g10, 0, none⟩) (j + 1) cap10) (by rw [← ef10]; rfl)
            rw [hat10] at y5
            have q0 := hcf10 0 (.int .i64 Fj.fn) (by rw [ec10]; rfl)
            have q1 := hcf10 1 (.int .i64 Fj.pc) (by rw [ec10]; rfl)
            have q2 := hcf10 2 (.int .i64 Fj.scope) (by rw [ec10]; rfl)
            have q3 := hcf10 3 (.int .i64 Fj.this.kind) (by rw [ec10]; rfl)
            have q4 := hcf10 4 (.int .i64 Fj.this.n) (by rw [ec10]; rfl)
            have q5 := hcf10 5 (.string Fj.this.s) (by rw [ec10]; rfl)
            have q6 := hcf10 6 (.slice (some ⟨bv, ov', none⟩) (m + 1) pv) (by rw [ec10]; rfl)
            have q7 := hcf10 7 (.slice (some ⟨bt, ot, none⟩) 1 pt') (by rw [ec10]; rfl)
            have q8 := hcf10 8 (.int .i64 Fj.gen) (by rw [ec10]; rfl)
            rw [hpc] at q1
            rw [hsc] at q2
            simp only [Nat.add_zero] at q0
            simp only at v0 v1 v2
            have lg10 : g10 < w10.heap.size := block_lt_of_cell q0
            have lv10 : bv < w10.heap.size := block_lt_of_cell v0
            have lt10 : bt < w10.heap.size := block_lt_of_cell t0
            have hjj : (j : Int) < (j : Int) + 1 := by omega
            have hmm : (m : Int) < (m : Int) + 1 := by omega
            generalize Fj.fn = z0 at q0
            generalize Fj.this.kind = z3 at q3
            generalize Fj.this.n = z4 at q4
            generalize Fj.this.s = z5 at q5
            generalize Fj.gen = z8 at q8
            clear hcf10 ec10 hvX10 h6 hct hvl hvn hvm htl hpc hsc eFj hj10 hl10 hS10 hM10 ef10 hat10 HEF HJF HRES HLEN HTR HS9 HAT7
            simp only [Nat.zero_mul, Nat.add_zero] at t0
            go_upto_region 24 with fail
            have hb1 : Below w10.heap.size w10 (w10.alloc (.cells #[.int .i64 0, .int .i64 0, .string ⟨#[]⟩] 33)) := (Below.refl _ _).alloc (Nat.le_refl _) _
            replace q0 := keepc hb1 q0
            replace q1 := keepc hb1 q1
            replace q2 := keepc hb1 q2
            replace q3 := keepc hb1 q3
            replace q4 := keepc hb1 q4
            replace q5 := keepc hb1 q5
            replace q6 := keepc hb1 q6
            replace q7 := keepc hb1 q7
            replace q8 := keepc hb1 q8
            replace y5 := keepc hb1 y5
            replace v0 := keepc hb1 v0
            replace v1 := keepc hb1 v1
            replace v2 := keepc hb1 v2
            replace t0 := keepc hb1 t0
            replace l10 := Nat.lt_of_lt_of_le l10 hb1.size
            replace lg10 := Nat.lt_of_lt_of_le lg10 hb1.size
            replace lv10 := Nat.lt_of_lt_of_le lv10 hb1.size
            replace lt10 := Nat.lt_of_lt_of_le lt10 hb1.size
            have HB11 := hid (HB10.out.trans (hb1.mono HB10.out.size))
            clear hb1 HB10
            generalize (w10.alloc (.cells #[.int .i64 0, .int .i64 0, .string ⟨#[]⟩] 33)) = W11 at q0 q1 q2 q3 q4 q5 q6 q7 q8 y5 v0 v1 v2 t0 l10 lg10 lv10 lt10 HB11 ⊢
            go_upto_region 25 with fail
            have hb2 : Below W11.heap.size W11 (W11.alloc (.cells #[.int .i64 z0, .int .i64 7, .int .i64 1, .int .i64 z3, .int .i64 z4, .string z5, .slice (some ⟨bv, ov', none⟩) (m + 1) pv, .slice (some ⟨bt, ot, none⟩) 1 pt', .int .i64 z8] 50)) := (Below.refl _ _).alloc (Nat.le_refl _) _
            have rX := heap_alloc_new W11 (.cells #[.int .i64 z0, .int .i64 7, .int .i64 1, .int .i64 z3, .int .i64 z4, .string z5, .slice (some ⟨bv, ov', none⟩) (m + 1) pv, .slice (some ⟨bt, ot, none⟩) 1 pt', .int .i64 z8] 50)
            have x1 := ov_row rX 1 (v := .int .i64 7) rfl
            have x2 := ov_row rX 2 (v := .int .i64 1) rfl
            have x6 := ov_row rX 6 (v := .slice (some ⟨bv, ov', none⟩) (m + 1) pv) rfl
            have x7 := ov_row rX 7 (v := .slice (some ⟨bt, ot, none⟩) 1 pt') rfl
            have a0 := ov_cell (Nat.lt_of_lt_of_le lv10 hb2.size) (keepc hb2 v0)
            have a1 := ov_cell (Nat.lt_of_lt_of_le lv10 hb2.size) (keepc hb2 v1)
            have a2 := ov_cell (Nat.lt_of_lt_of_le lv10 hb2.size) (keepc hb2 v2)
            have d0 := ov_cell (Nat.lt_of_lt_of_le lt10 hb2.size) (keepc hb2 t0)
            have HB12 := hid (HB11.out.trans (hb2.mono HB11.out.size))
            clear hb2 HB11 rX q0 q1 q2 q3 q4 q5 q6 q7 q8 y5 v0 v1 v2 t0
            generalize (W11.alloc (.cells #[.int .i64 z0, .int .i64 7, .int .i64 1, .int .i64 z3, .int .i64 z4, .string z5, .slice (some ⟨bv, ov', none⟩) (m + 1) pv, .slice (some ⟨bt, ot, none⟩) 1 pt', .int .i64 z8] 50)) = W12 at x1 x2 x6 x7 a0 a1 a2 d0 HB12 ⊢
            refine wp_region_over_lit (by kernel_rfl) (by kernel_rfl) ?_
            repeat (first
              | go_big_quiet_step ((first | (go_at_call 17; exact calls_over (rstrL_c ⟨#[116]⟩)) | (go_at_call 20; exact calls_over (awake16_c _)))))
            refine wpQuiet_nil ?_
            intro W' hW'
            obtain ⟨x, rfl⟩ := hW'
            have HBx := hid (HB12.out.trans ((ov_below x).mono HB12.out.size))
            clear x1 x2 x6 x7 a0 a1 a2 d0 HB12
            go_wp2_with fail
            go_ret
            exact ⟨rfl, HBx.out⟩
end Go.Proofs.Ytdgpblhmfkpblaa.Pg
