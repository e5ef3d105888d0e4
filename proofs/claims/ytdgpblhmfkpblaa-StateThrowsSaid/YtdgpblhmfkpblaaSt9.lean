/- New; a state by itself; promise's small calls. -/
import Derived.Test.YtdgpblhmfkpblaaSt8
namespace Go.Proofs.Ytdgpblhmfkpblaa.Pg
open Go.RowKit

/-- A state whose heap comes of no other one. -/
def St1 (B : Bd) (w : World) (D : FD) (G : SG) (P : PS) : Prop := Sta B w D [G.hp] [some P.cells] 0 G P
/-- What a call leaves, where there is one state alone. -/
def Next1 (B : Bd) (w : World) (D : FD) (G : SG) (w' : World) (P' : PS) : Prop := ∃ B' D' G', St1 B' w' D' G' P' ∧ SMv B w D G B' w' D' G'
section
variable {B B' : Bd} {w w' : World} {G G' : SG} {P P' : PS} {D D' : FD}
theorem St1.of (h : Sta B' w' D' [G.hp] [some P'.cells] 0 G' P') (hm : SMv B w D G B' w' D' G') : St1 B' w' D' G' P' := by
  unfold St1; rw [hm.hp]; exact h
theorem Next1.of (h : Sta B' w' D' [G.hp] [some P'.cells] 0 G' P') (hm : SMv B w D G B' w' D' G') : Next1 B w D G w' P' := ⟨_, _, _, St1.of h hm, hm⟩
theorem St1.below (h : St1 B w D G P) (hb : Below w.heap.size w w') : St1 B w' D G P := Sta.below h hb
theorem St1.le (h : St1 B w D G P) : B ≤ w.heap.size := Nat.le_trans h.ok.base (Nat.le_of_lt (h.ok.foot_lt (.inl rfl)).1)
theorem Next1.refl (h : St1 B w D G P) : Next1 B w D G w P := ⟨_, _, _, h, SMv.refl _ _ _ _⟩
theorem Next1.pre {w0 : World} (hb : Below w0.heap.size w0 w) (h : Next1 B w D G w' P') : Next1 B w0 D G w' P' := by
  obtain ⟨B', D', G', h1, h2⟩ := h
  exact ⟨B', D', G', h1, (SMv.below D G hb).trans h2⟩
theorem Next1.post {w'' : World} (hb : Below w'.heap.size w' w'') (h : Next1 B w D G w' P') : Next1 B w D G w'' P' := by
  obtain ⟨B', D', G', h1, h2⟩ := h
  exact ⟨B', D', G', h1.below hb, h2.trans (SMv.below D' G' hb)⟩
theorem St1.goes (h : St1 B w D G P) {l : List CD} (hH : Hp B w' D' [G.hp] [some l]) (hG : Goes B w D w' D') : Next1 B w D G w' { P with cells := l } :=
  ⟨B, D', G, Sta.goes (L := [some P.cells]) (i := 0) h hH hG, SMv.goes G hG⟩

/-- A state's block, all of it new. -/
theorem St1.new {hp : Nat} {funs : Value} (hH : Hp B w D [hp] [some []]) (hB : B ≤ w.heap.size) {o : Obj} (ho : o = .cells (stRow ⟨w.heap.size, hp, .slice none 0 0, [], .slice none 0 0, .slice none 0 0, funs⟩ ⟨0, [], [], [], []⟩) 55) :
    St1 B (w.alloc o) D ⟨w.heap.size, hp, .slice none 0 0, [], .slice none 0 0, .slice none 0 0, funs⟩ ⟨0, [], [], [], []⟩ := by
  subst ho
  refine ⟨hH.below ((Below.refl _ _).alloc (Nat.le_refl _) _), rfl, rfl, hB, heap_alloc_new _ _, XRow.nil _ _ _ _, rfl, ?_, ?_, XRow.nil _ _ _ _, XRow.nil _ _ _ _⟩
  · intro i F c hF; simp at hF
  · intro i j c c' g hc; simp at hc

set_option maxHeartbeats 800000 in
set_option maxRecDepth 100000 in
theorem snew_c (hB : B ≤ w.heap.size) (hX : ∀ k, B.X k → k < w.heap.size) {fs : List FunD} {A : Option Addr} {n cap : Nat} (hF : RowR B w 5 (.slice A n cap) (fs.map FunD.row)) {f : FunD} (hk : fs[0]? = some f) (hgen : f.gen = false) (hcode : ∃ A n c, f.code = .slice A n c)
    (hs0 : 0 ≤ f.slots) (hs1 : f.slots ≤ 1000) :
    Calls Try.prog 13 #[.slice A n cap] w fun e w' => ∃ a, e = .returned (.tuple #[.pointer (some ⟨a, 0, none⟩), .int .i64 0]) ∧ ∃ B' D G, St1 B' w' D G ⟨0, [scopeC 0 (slotsD f.params f.slots.toNat [])], [⟨0, 0, 1, undefV, [], [], 0⟩], [], []⟩ ∧ G.at_ = a ∧ G.funs = .slice A n cap ∧
      Ext B B' w.heap.size ∧ Fr B w w' ∧ Below w.heap.size w w' := by
  have hn := hF.get.1
  rw [List.length_map] at hn
  have hlen := (List.getElem?_eq_some_iff.1 hk).1
  have hxr : (fs.map FunD.row)[0]? = some f.row := by rw [List.getElem?_map, hk]; rfl
  obtain ⟨b, o, rfl, -, hc⟩ := hF.get.2.2 0 _ hxr
  have q3 := hc 3 _ rfl
  rw [hgen] at q3
  simp only [Nat.zero_mul, Nat.add_zero] at q3
  have h0 : ((n : Int) == 0) = false := by rw [beq_eq_false_iff_ne]; omega
  have h1 : (0 : Int) < (n : Int) := by omega
  have HF := hid hF
  have HX := hid hX
  clear hF hX hc
  go_enter Try.func13, Try.ntmps13
  go_upto_region 3 with fail
  go_wp2_with fail
  refine (Hp.new w hB HX.out).mono ?_
  rintro e w1 ⟨a, rfl, D, hH, hb, hft⟩
  have HH := hid hH
  have HB := hid hb
  have HFT := hid hft
  clear hH hb hft
  go_wp2_with fail
  have s1 := HB.out.size
  have hS := St1.new (funs := .slice (some ⟨b, o, none⟩) n cap) HH.out (Nat.le_trans hB s1) rfl
  have hb2 := HB.out.trans (((Below.refl _ _).alloc (Nat.le_refl _) (.cells (stRow ⟨w1.heap.size, a, .slice none 0 0, [], .slice none 0 0, .slice none 0 0, .slice (some ⟨b, o, none⟩) n cap⟩ ⟨0, [], [], [], []⟩) 55)).mono s1)
  refine (enter_c hS (by simp) rfl (HF.out.move (Fr.of_below hb2)) hk hgen hcode hs0 hs1 0 undefV (args := []) (A := none) (n := 0) (cap := 0) (RowR.nil _ _ _) (by simp) (by simp)).mono ?_
  rintro e w3 ⟨rfl, B', D', G', hS', hM'⟩
  have HB2 := hid hb2
  have HS' := hid hS'
  have HM' := hid hM'
  have HS := hid hS
  clear hb2 hS' hM' hS
  go_wp2_with fail
  go_ret2
  refine ⟨_, rfl, B', D', G', St1.of HS'.out HM'.out, HM'.out.at_, HM'.out.funs, HM'.out.ext.mono HB2.out.size, (Fr.of_below HB2.out).trans HM'.out.fr, ?_⟩
  refine ⟨HM'.out.fr.os.trans HB2.out.os, HM'.out.fr.tape.trans HB2.out.tape, HM'.out.fr.output.trans HB2.out.output, Nat.le_trans HB2.out.size HM'.out.fr.size, fun k hk => ?_⟩
  refine (HM'.out.keep k (Nat.lt_of_lt_of_le hk HB2.out.size) (fun hf => by have := HFT.out k hf; omega) (fun hf => ?_)).trans (HB2.out.block k hk)
  rcases hf with rfl | hf | ⟨c, hc, _⟩ | hf | hf
  · exact absurd hk (by simp; omega)
  · simp [Value.ownBlock] at hf
  · simp at hc
  · simp [Value.ownBlock] at hf
  · simp [Value.ownBlock] at hf
end
end Go.Proofs.Ytdgpblhmfkpblaa.Pg
