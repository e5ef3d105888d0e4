/- Small calls of package state; a frame more. -/
import Derived.Test.YtdgpblhmfkpblaaSt6
import Derived.Deep.RegionLaw
import Derived.Deep.AppendLies
namespace Go.Proofs.Ytdgpblhmfkpblaa.Pg
open Go.RowKit

section
variable {B B' : Bd} {w w' : World} {G G' : SG} {P P' : PS} {D D' : FD} {hs : List Nat} {L : List (Option (List CD))} {i : Nat}

theorem StOk.c (h : StOk B w G P) {k : Nat} {u : Value} (hu : (stRow G P)[k]? = some u) : w.cell? ⟨G.at_, k, none⟩ = some u := by
  have := cell_of_row w G.at_ k _ _ _ h.cell
  rw [this]; simpa using hu
theorem StOk.frozen (h : StOk B w G P) (k : Nat) : w.frozen? ⟨G.at_, k, none⟩ = false := by simp [World.frozen?, h.cell]

set_option maxHeartbeats 400000 in
set_option maxRecDepth 100000 in
theorem room_c (h : Sta B w D hs L i G P) {n : Int} (hn : 0 ≤ n ∧ n ≤ 1000) (hl : P.cells.length ≤ 4096) : Calls Try.prog 44 #[ptr G.at_, .int .i64 n] w fun e w' => e = .returned (.bool (decide ((P.cells.length : Nat) + n ≤ 4096))) ∧ w' = w := by
  have HL := hid (h.h.len h.hp h.cells rfl)
  have c0 := h.ok.c (k := 0) (u := ptr G.hp) rfl
  clear h
  unfold ptr at *
  have hw : IntKind.i64.wrap ((P.cells.length : Nat) + n) = (P.cells.length : Nat) + n := IntWalk.i64_in _ (by omega)
  go_enter Try.func44, Try.ntmps44
  go_wp2_with fail
  refine HL.out.mono ?_
  rintro e w1 ⟨rfl, rfl⟩
  go_wp2_with fail
  go_ret
  exact ⟨rfl, rfl⟩
theorem XRow.some {T sz : Nat} {v : Value} {rows : List (List Value)} (h : XRow B w T sz v rows) (hn : 0 < rows.length) : ∃ g cap, v = .slice (some ⟨g, 0, none⟩) rows.length cap ∧ B.X g ∧ rows.length ≤ cap ∧ cap ≤ maxLen := by
  rcases h.own.2 with ⟨rfl, h0⟩ | ⟨g, cap, cur, rfl, hb, hg, h1, h2, _⟩
  · omega
  · exact ⟨g, cap, rfl, h.X g rfl, h1, h2⟩
set_option maxHeartbeats 400000 in
set_option maxRecDepth 100000 in
theorem last_none (h : StOk B w G P) (hn : P.frames = []) : Calls Try.prog 45 #[ptr G.at_] w fun e w' => e = .returned (.pointer none) ∧ w' = w := by
  obtain ⟨A, cap, e⟩ := h.fr.slice
  have hl : G.rows.length = 0 := by rw [h.len, hn]; rfl
  rw [hl] at e
  have c5 := h.c (k := 5) (u := .slice A 0 cap) (by rw [← e]; rfl)
  clear h hn hl e
  unfold ptr at *
  go_enter Try.func45, Try.ntmps45
  go_wp2_with fail
  go_ret
  exact ⟨rfl, rfl⟩
set_option maxHeartbeats 400000 in
set_option maxRecDepth 100000 in
theorem last_c (h : StOk B w G P) {n : Nat} (_hn : P.frames.length = n + 1) {g cap : Nat} (hg : G.fsl = .slice (some ⟨g, 0, none⟩) (n + 1) cap) (hc : n + 1 ≤ cap) (hm : cap ≤ maxLen) : Calls Try.prog 45 #[ptr G.at_] w fun e w' => e = .returned (.pointer (some ⟨g, n * 9, none⟩)) ∧ Below w.heap.size w w' := by
  have c5 := h.c (k := 5) (u := .slice (some ⟨g, 0, none⟩) (n + 1) cap) (by rw [← hg]; rfl)
  have hw : IntKind.i64.wrap (n : Int) = n := IntWalk.i64_in _ (by unfold maxLen at hm; omega)
  have h1 : (n : Int) < (n : Int) + 1 := by omega
  have h0 : (0 : Int) ≤ (n : Int) := by omega
  clear h hg
  unfold ptr at *
  go_enter Try.func45, Try.ntmps45
  go_wp2_with fail
  go_quiet (fail)
  go_wp2
  go_ret
  exact ⟨rfl, below_drewN (Below.refl _ _) _⟩
set_option maxHeartbeats 400000 in
set_option maxRecDepth 100000 in
theorem full_none (w : World) : Calls Try.prog 46 #[.pointer none] w fun e w' => e = .returned (.bool false) ∧ w' = w := by
  go_enter Try.func46, Try.ntmps46
  go_wp2_with fail
  go_ret
  exact ⟨rfl, rfl⟩
set_option maxHeartbeats 400000 in
set_option maxRecDepth 100000 in
theorem full_c {g o n cap : Nat} {A : Option Addr} (hc : w.cell? ⟨g, o + 6, none⟩ = some (.slice A n cap)) : Calls Try.prog 46 #[.pointer (some ⟨g, o, none⟩)] w fun e w' => e = .returned (.bool (decide (256 ≤ (n : Int)))) ∧ w' = w := by
  go_enter Try.func46, Try.ntmps46
  go_wp2_with fail
  go_ret
  exact ⟨rfl, rfl⟩

/-- A frame more, without values. -/
theorem Sta.pushFrame (h : Sta B w D hs L i G P) {F : FrD} (hv : F.vals = []) (ht : F.tries = []) {n g cap : Nat} {w1 : World} (hn : G.rows.length = n)
    (ho : w1.ownsRow B 50 9 (.slice (some ⟨g, 0, none⟩) (n + 1) cap) (n + 1) (G.rows.flatten ++ frameRow F (.slice none 0 0) (.slice none 0 0))) (hg : w.grownBy w1 G.fsl.ownBlock) (hgl : G.fsl.ownBlock = some g ∨ g = w.heap.size) (hlt : g < w1.heap.size) :
    ∃ G', Sta (B.plus g) (w1.setCell ⟨G.at_, 5, none⟩ (.slice (some ⟨g, 0, none⟩) (n + 1) cap)) D hs L i G' { P with frames := P.frames ++ [F] } ∧
      SMv B w D G (B.plus g) (w1.setCell ⟨G.at_, 5, none⟩ (.slice (some ⟨g, 0, none⟩) (n + 1) cap)) D G' := by
  have hat : G.fsl.ownBlock ≠ some G.at_ := fun e => absurd ((h.ok.fr.typ e).1.uniq (Typ.of h.ok.cell)) (by decide)
  have halt := (h.ok.foot_lt (.inl rfl)).1
  have hat1 : w1.heap[G.at_]? = w.heap[G.at_]? := hg.block _ halt (fun e => hat e.symm)
  have hgat : G.at_ ≠ g := fun e => by
    have h1 := (own_typ ho (k := g) rfl).1
    rw [← e] at h1
    exact absurd (h1.uniq ((Typ.of h.ok.cell).move hat1)) (by decide)
  have hother : ∀ k, k < w.heap.size → k ≠ G.at_ → G.fsl.ownBlock ≠ some k → (w1.setCell ⟨G.at_, 5, none⟩ (.slice (some ⟨g, 0, none⟩) (n + 1) cap)).heap[k]? = w.heap[k]? := fun k hk h1 h2 =>
    (set_ne _ h1).trans (hg.block k hk (fun e => h2 e.symm))
  have hE : Ext B (B.plus g) w.heap.size := Ext.plusOr (hgl.imp (h.ok.fr.X g) (fun e => by omega))
  have hf : Fr B w (w1.setCell ⟨G.at_, 5, none⟩ (.slice (some ⟨g, 0, none⟩) (n + 1) cap)) :=
    (fr_grownX h.ok.fr.own (Nat.le_refl _) h.ok.fr.X hg).trans (Fr.set (T := 55) _ ((Typ.of h.ok.cell).move hat1) (by decide) (by decide) h.ok.base)
  have hval : ∀ c ∈ G.rows, ∀ k, (valsOf c).ownBlock = some k → (w1.setCell ⟨G.at_, 5, none⟩ (.slice (some ⟨g, 0, none⟩) (n + 1) cap)).heap[k]? = w.heap[k]? := fun c hc k hk => by
    obtain ⟨j, F', _, _, hF⟩ := h.ok.rowAt hc
    have t := (hF.vals.typ hk).1
    exact hother k t.lt (fun e => by subst e; exact absurd (t.uniq (Typ.of h.ok.cell)) (by decide)) (fun e => absurd (t.uniq (h.ok.fr.typ e).1) (by decide))
  have hjob : ∀ k, G.jsl.ownBlock = some k → (w1.setCell ⟨G.at_, 5, none⟩ (.slice (some ⟨g, 0, none⟩) (n + 1) cap)).heap[k]? = w.heap[k]? := fun k hk => by
    have t := (h.ok.jobs.typ hk).1
    exact hother k t.lt (fun e => by subst e; exact absurd (t.uniq (Typ.of h.ok.cell)) (by decide)) (fun e => absurd (t.uniq (h.ok.fr.typ e).1) (by decide))
  have hout : ∀ k, G.osl.ownBlock = some k → (w1.setCell ⟨G.at_, 5, none⟩ (.slice (some ⟨g, 0, none⟩) (n + 1) cap)).heap[k]? = w.heap[k]? := fun k hk => by
    have t := (h.ok.outs.typ hk).1
    exact hother k t.lt (fun e => by subst e; exact absurd (t.uniq (Typ.of h.ok.cell)) (by decide)) (fun e => absurd (t.uniq (h.ok.fr.typ e).1) (by decide))
  refine ⟨{ G with fsl := .slice (some ⟨g, 0, none⟩) (n + 1) cap, rows := G.rows ++ [frameRow F (.slice none 0 0) (.slice none 0 0)] }, h.turn hE hf ?_ ?_ ?_ rfl rfl rfl rfl ?_⟩
  · exact fun k hk hs => hother k hk (fun e => hs (.inl e)) (fun e => hs (.inr (.inl e)))
  · rintro k (hk | rfl)
    · have := h.h.fam.fresh k hk
      have := hg.size
      simp; omega
    · simpa using hlt
  · refine ⟨by exact h.ok.base, ?_, ⟨?_, ?_, ?_⟩, ?_, ?_, ?_, h.ok.jobs.keep hE hjob, h.ok.outs.keep hE hout⟩
    · rw [set_at (hat1.trans h.ok.cell)]; rfl
    · refine own_base (own_move (w := w1) ?_ (fun k hk => set_ne _ (fun e => ?_))) hE.hn.symm
      · simp only [List.length_append, hn, List.length_cons, List.length_nil, List.flatten_append, List.flatten_cons, List.flatten_nil, List.append_nil]; exact ho
      · have hk' : g = k := by simpa [Value.ownBlock] using hk
        exact hgat (e ▸ hk'.symm)
    · exact fun k hk => .inr (by simpa [Value.ownBlock] using hk.symm)
    · intro c hc
      rcases List.mem_append.1 hc with hc | hc
      · exact h.ok.fr.sz c hc
      · rw [List.mem_singleton.1 hc]; rfl
    · simp [h.ok.len]
    · intro j F' c hF hc
      rcases Nat.lt_or_ge j G.rows.length with hj | hj
      · rw [List.getElem?_append_left (by rw [← h.ok.len]; exact hj)] at hF
        rw [List.getElem?_append_left hj] at hc
        exact (h.ok.row j F' c hF hc).keep hE hf (hval c (List.mem_of_getElem? hc))
      · have hj1 := (List.getElem?_eq_some_iff.1 hc).1
        simp only [List.length_append, List.length_cons, List.length_nil] at hj1
        obtain rfl : j = G.rows.length := by omega
        rw [List.getElem?_append_right (Nat.le_refl _)] at hc
        rw [h.ok.len, List.getElem?_append_right (Nat.le_refl _)] at hF
        simp at hc hF
        subst hc hF
        exact ⟨_, _, rfl, by rw [hv]; exact XRow.nil _ _ _ _, by rw [ht]; exact RowR.nil _ _ _⟩
    · intro j j' c c' k hc hc' hk hk'
      have old : ∀ (j : Nat) (c : List Value), (G.rows ++ [frameRow F (.slice none 0 0) (.slice none 0 0)])[j]? = some c → (valsOf c).ownBlock = some k → G.rows[j]? = some c := fun j c hc hk => by
        rcases Nat.lt_or_ge j G.rows.length with hj | hj
        · rwa [List.getElem?_append_left hj] at hc
        · have hj1 := (List.getElem?_eq_some_iff.1 hc).1
          simp only [List.length_append, List.length_cons, List.length_nil] at hj1
          obtain rfl : j = G.rows.length := by omega
          simp at hc
          subst hc
          simp [valsOf, frameRow, Value.ownBlock] at hk
      exact h.ok.inj j j' c c' k (old j c hc hk) (old j' c' hc' hk') hk hk'
  · rintro k (rfl | hk | ⟨c, hc, hk⟩ | hk | hk)
    · exact .inl (.inl rfl)
    · have hk' : g = k := by simpa [Value.ownBlock] using hk
      subst hk'
      exact hgl.imp (fun e => .inr (.inl e)) (fun e => by omega)
    · rcases List.mem_append.1 hc with hc | hc
      · exact .inl (.inr (.inr (.inl ⟨c, hc, hk⟩)))
      · rw [List.mem_singleton.1 hc] at hk
        simp [valsOf, frameRow, Value.ownBlock] at hk
    · exact .inl (.inr (.inr (.inr (.inl hk))))
    · exact .inl (.inr (.inr (.inr (.inr hk))))
end
end Go.Proofs.Ytdgpblhmfkpblaa.Pg
