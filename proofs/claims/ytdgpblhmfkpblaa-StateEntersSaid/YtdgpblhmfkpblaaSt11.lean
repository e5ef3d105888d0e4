/- A job more; promise's calls. -/
import Derived.Test.YtdgpblhmfkpblaaSt10
import Derived.StillTailTactics
namespace Go.Proofs.Ytdgpblhmfkpblaa.Pg
open Go.RowKit

section
variable {B B' : Bd} {w w' : World} {G G' : SG} {P P' : PS} {D D' : FD} {hs : List Nat} {L : List (Option (List CD))} {i : Nat}
/-- A job more. -/
theorem Sta.pushJob (h : Sta B w D hs L i G P) {J : JobD} {n g cap : Nat} {w1 : World} (hn : P.jobs.length = n)
    (ho : w1.ownsRow B 69 8 (.slice (some ⟨g, 0, none⟩) (n + 1) cap) (n + 1) ((P.jobs.map JobD.row).flatten ++ J.row)) (hg : w.grownBy w1 G.jsl.ownBlock) (hgl : G.jsl.ownBlock = some g ∨ g = w.heap.size) (hlt : g < w1.heap.size) :
    ∃ G', Sta (B.plus g) (w1.setCell ⟨G.at_, 7, none⟩ (.slice (some ⟨g, 0, none⟩) (n + 1) cap)) D hs L i G' { P with jobs := P.jobs ++ [J] } ∧
      SMv B w D G (B.plus g) (w1.setCell ⟨G.at_, 7, none⟩ (.slice (some ⟨g, 0, none⟩) (n + 1) cap)) D G' := by
  have hat : G.jsl.ownBlock ≠ some G.at_ := fun e => absurd ((h.ok.jobs.typ e).1.uniq (Typ.of h.ok.cell)) (by decide)
  have halt := (h.ok.foot_lt (.inl rfl)).1
  have hat1 : w1.heap[G.at_]? = w.heap[G.at_]? := hg.block _ halt (fun e => hat e.symm)
  have hgat : G.at_ ≠ g := fun e => by
    have h1 := (own_typ ho (k := g) rfl).1
    rw [← e] at h1
    exact absurd (h1.uniq ((Typ.of h.ok.cell).move hat1)) (by decide)
  have hother : ∀ k, k < w.heap.size → k ≠ G.at_ → G.jsl.ownBlock ≠ some k → (w1.setCell ⟨G.at_, 7, none⟩ (.slice (some ⟨g, 0, none⟩) (n + 1) cap)).heap[k]? = w.heap[k]? := fun k hk h1 h2 =>
    (set_ne _ h1).trans (hg.block k hk (fun e => h2 e.symm))
  have hE : Ext B (B.plus g) w.heap.size := Ext.plusOr (hgl.imp (h.ok.jobs.X g) (fun e => by omega))
  have hf : Fr B w (w1.setCell ⟨G.at_, 7, none⟩ (.slice (some ⟨g, 0, none⟩) (n + 1) cap)) :=
    (fr_grownX h.ok.jobs.own (Nat.le_refl _) h.ok.jobs.X hg).trans (Fr.set (T := 55) _ ((Typ.of h.ok.cell).move hat1) (by decide) (by decide) h.ok.base)
  have hsame : ∀ k T, Typ w k T → T ≠ 55 → T ≠ 69 → (w1.setCell ⟨G.at_, 7, none⟩ (.slice (some ⟨g, 0, none⟩) (n + 1) cap)).heap[k]? = w.heap[k]? := fun k T t h1 h2 =>
    hother k t.lt (fun e => by subst e; exact h1 (t.uniq (Typ.of h.ok.cell))) (fun e => h2 (t.uniq (h.ok.jobs.typ e).1))
  refine ⟨{ G with jsl := .slice (some ⟨g, 0, none⟩) (n + 1) cap }, h.turn hE hf ?_ ?_ ?_ rfl rfl rfl rfl ?_⟩
  · exact fun k hk hs => hother k hk (fun e => hs (.inl e)) (fun e => hs (.inr (.inr (.inr (.inl e)))))
  · rintro k (hk | rfl)
    · have := h.h.fam.fresh k hk
      have := hg.size
      simp; omega
    · simpa using hlt
  · refine ⟨by exact h.ok.base, ?_, h.ok.fr.keep hE (fun k hk => hsame k _ (h.ok.fr.typ hk).1 (by decide) (by decide)), h.ok.len,
      fun j F c hF hc => (h.ok.row j F c hF hc).keep hE hf (fun k hk => hsame k _ ((h.ok.row j F c hF hc).vals.typ hk).1 (by decide) (by decide)), h.ok.inj, ⟨?_, ?_, JobD.row_len⟩, h.ok.outs.keep hE (fun k hk => hsame k _ (h.ok.outs.typ hk).1 (by decide) (by decide))⟩
    · rw [set_at (hat1.trans h.ok.cell)]; rfl
    · refine own_base (own_move (w := w1) ?_ (fun k hk => set_ne _ (fun e => ?_))) hE.hn.symm
      · simp only [List.map_append, List.map_cons, List.map_nil, List.length_append, List.length_map, hn, List.length_cons, List.length_nil, List.flatten_append, List.flatten_cons, List.flatten_nil, List.append_nil]; exact ho
      · have hk' : g = k := by simpa [Value.ownBlock] using hk
        exact hgat (e ▸ hk'.symm)
    · exact fun k hk => .inr (by simpa [Value.ownBlock] using hk.symm)
  · rintro k (rfl | hk | hk | hk | hk)
    · exact .inl (.inl rfl)
    · exact .inl (.inr (.inl hk))
    · exact .inl (.inr (.inr (.inl hk)))
    · have hk' : g = k := by simpa [Value.ownBlock] using hk
      subst hk'
      exact hgl.imp (fun e => .inr (.inr (.inr (.inl e)))) (fun e => by omega)
    · exact .inl (.inr (.inr (.inr (.inr hk))))

set_option maxHeartbeats 800000 in
set_option maxRecDepth 100000 in
theorem pnum_c (w : World) (n : Int) : Calls Try.prog 74 #[.int .i64 n] w fun e w' => e = .returned (numV n).agg ∧ Below w.heap.size w w' := by
  go_enter Try.func74, Try.ntmps74
  go_wp2
  obtain ⟨y0, y1, y2⟩ := val_cells w (.int .i64 3) (.int .i64 n) (.string ⟨#[]⟩)
  refine bodyPost_ret (v := (numV n).agg) (by simp [results, Try.results74, go_sem, y0, y1, y2, VD.agg, numV] <;> rfl) rfl ?_
  exact ⟨rfl, (Below.refl _ _).alloc (Nat.le_refl _) _⟩
set_option maxHeartbeats 800000 in
set_option maxRecDepth 100000 in
theorem rown_c (w : World) (s : ByteArray) (n : Int) : Calls Try.prog 34 #[.string s, .int .i64 n] w fun e w' => e = .returned (VD.mk 6 n s).agg ∧ Below w.heap.size w w' := by
  go_enter Try.func34, Try.ntmps34
  go_wp2
  obtain ⟨y0, y1, y2⟩ := val_cells w (.int .i64 6) (.int .i64 n) (.string s)
  refine bodyPost_ret (v := (VD.mk 6 n s).agg) (by simp [results, Try.results34, go_sem, y0, y1, y2, VD.agg] <;> rfl) rfl ?_
  exact ⟨rfl, (Below.refl _ _).alloc (Nat.le_refl _) _⟩

def JobD.agg (j : JobD) : Value := .agg #[.int .i64 j.fn.kind, .int .i64 j.fn.n, .string j.fn.s, .int .i64 j.arg.kind, .int .i64 j.arg.n, .string j.arg.s, .int .i64 j.child, .bool j.kept]
set_option maxHeartbeats 1600000 in
set_option maxRecDepth 100000 in
theorem put_c (h : St1 B w D G P) (J : JobD) (hn : P.jobs.length ≤ 100000) : Calls Try.prog 107 #[.agg #[.pointer (some ⟨G.at_, 7, none⟩)], J.agg] w fun e w' => e = .returned (.tuple #[]) ∧ Next1 B w D G w' { P with jobs := P.jobs ++ [J] } := by
  obtain ⟨i0, hi, hz0, hz1, hz2⟩ := info_parts infoJob
  have HI := hid hi
  have hbW : Below w.heap.size w ((w.alloc (.cells #[.pointer (some ⟨G.at_, 7, none⟩)] 163)).alloc (.cells #[.int .i64 J.fn.kind, .int .i64 J.fn.n, .string J.fn.s, .int .i64 J.arg.kind, .int .i64 J.arg.n, .string J.arg.s, .int .i64 J.child, .bool J.kept] 69)) := ((Below.refl _ _).alloc (Nat.le_refl _) _).alloc (by simp) _
  have r1 : ((w.alloc (.cells #[.pointer (some ⟨G.at_, 7, none⟩)] 163)).alloc (.cells #[.int .i64 J.fn.kind, .int .i64 J.fn.n, .string J.fn.s, .int .i64 J.arg.kind, .int .i64 J.arg.n, .string J.arg.s, .int .i64 J.child, .bool J.kept] 69)).heap[w.heap.size]? = some (.cells #[.pointer (some ⟨G.at_, 7, none⟩)] 163 (0, 0)) := by
    rw [heap_alloc_old _ _ (by simp), heap_alloc_new]
  have r2 := heap_alloc_new (w.alloc (.cells #[.pointer (some ⟨G.at_, 7, none⟩)] 163)) (.cells #[.int .i64 J.fn.kind, .int .i64 J.fn.n, .string J.fn.s, .int .i64 J.arg.kind, .int .i64 J.arg.n, .string J.arg.s, .int .i64 J.child, .bool J.kept] 69)
  rw [show (w.alloc (.cells #[.pointer (some ⟨G.at_, 7, none⟩)] 163)).heap.size = w.heap.size + 1 by simp] at r2
  have hsz : ((w.alloc (.cells #[.pointer (some ⟨G.at_, 7, none⟩)] 163)).alloc (.cells #[.int .i64 J.fn.kind, .int .i64 J.fn.n, .string J.fn.s, .int .i64 J.arg.kind, .int .i64 J.arg.n, .string J.arg.s, .int .i64 J.child, .bool J.kept] 69)).heap.size = w.heap.size + 2 := by simp
  have H := hid (h.below hbW)
  have BW := hid hbW
  unfold JobD.agg
  clear hi hbW
  go_enter Try.func107, Try.ntmps107
  go_upto_region 1 with fail
  generalize ((w.alloc (.cells #[.pointer (some ⟨G.at_, 7, none⟩)] 163)).alloc (.cells #[.int .i64 J.fn.kind, .int .i64 J.fn.n, .string J.fn.s, .int .i64 J.arg.kind, .int .i64 J.arg.n, .string J.arg.s, .int .i64 J.child, .bool J.kept] 69)) = W at H BW r1 r2 hsz ⊢
  obtain ⟨Aj, pj, ej⟩ := H.out.ok.jobs.slice
  rw [List.length_map] at ej
  have c7 := H.out.ok.c (k := 7) (u := .slice Aj P.jobs.length pj) (by rw [← ej]; rfl)
  have f7 := H.out.ok.frozen 7
  have hat := (H.out.ok.foot_lt (.inl rfl)).1
  have p0 := (cell_of_row _ _ 0 _ _ _ r1).trans (b := some (Value.pointer (some ⟨G.at_, 7, none⟩))) rfl
  have q0 := (cell_of_row _ _ 0 _ _ _ r2).trans (b := some (Value.int .i64 J.fn.kind)) rfl
  have q1 := (cell_of_row _ _ 1 _ _ _ r2).trans (b := some (Value.int .i64 J.fn.n)) rfl
  have q2 := (cell_of_row _ _ 2 _ _ _ r2).trans (b := some (Value.string J.fn.s)) rfl
  have q3 := (cell_of_row _ _ 3 _ _ _ r2).trans (b := some (Value.int .i64 J.arg.kind)) rfl
  have q4 := (cell_of_row _ _ 4 _ _ _ r2).trans (b := some (Value.int .i64 J.arg.n)) rfl
  have q5 := (cell_of_row _ _ 5 _ _ _ r2).trans (b := some (Value.string J.arg.s)) rfl
  have q6 := (cell_of_row _ _ 6 _ _ _ r2).trans (b := some (Value.int .i64 J.child)) rfl
  have q7 := (cell_of_row _ _ 7 _ _ _ r2).trans (b := some (Value.bool J.kept)) rfl
  have hown : (W.drew.alloc (.cells J.row.toArray 69)).ownsRow B 69 8 (.slice Aj P.jobs.length pj) P.jobs.length (P.jobs.map JobD.row).flatten := by
    have := (H.out.ok.jobs.own).alloc (.cells J.row.toArray 69)
    rw [ej, List.length_map] at this
    exact this
  have HOwn := hid hown
  have hb6 : Below W.heap.size W (W.alloc (.cells J.row.toArray 69)).drew := ((Below.refl _ _).alloc (Nat.le_refl _) _).drew
  have HB6 := hid hb6
  have hw1 : w.heap.size < W.heap.size := by omega
  have HQ := hid (Typ.of r1)
  have hw2 : w.heap.size + 1 < W.heap.size := by omega
  clear hown r1 r2 hb6 h hsz
  go_region_law (first
    | (refine step_append_lies _ (by rfl) (.tmp 9) (.tmp 11) 39 (by rfl) B 69 i0 (.agg #[.int .i64 0, .int .i64 0, .string ByteArray.empty, .int .i64 0, .int .i64 0, .string ByteArray.empty, .int .i64 0, .bool false]) 8 80 Try.underlying39 HI.out hz0 hz1 hz2 rfl (by decide) (.slice Aj P.jobs.length pj) P.jobs.length (P.jobs.map JobD.row).flatten ?c1 ?c2 ⟨W.heap.size, 0, none⟩ 1 1 J.row ?c3 rfl ?c4 ?c5 (by decide) ?c6 ?c7 ?c8 _ rfl ?_;
       (case c1 => rfl); (case c2 => exact HOwn.out); (case c3 => rfl); (case c4 => exact World.news_of_block (heap_alloc_new _ _)); (case c5 => simp [JobD.row, VD.row, Value.oneCell']); (case c6 => unfold maxLen; omega); (case c7 => omega); (case c8 => simp; have := H.out.ok.base; omega);
       intro g cap6 w6 ho6 hg6 hgl6 hlt6;
       have hp6 : w6.heap[G.at_]? = W.heap[G.at_]? := (hg6.block _ (by simp; omega) (fun e => absurd ((own_typ HOwn.out e.symm).1.uniq ((Typ.of H.out.ok.cell).move (heap_alloc_old W _ hat))) (by decide))).trans (heap_alloc_old W _ hat);
       have hq6 : w6.heap[w.heap.size]? = W.heap[w.heap.size]? := (hg6.block _ (by simp; omega) (fun e => absurd ((own_typ HOwn.out e.symm).1.uniq (HQ.out.move (heap_alloc_old W _ hw1))) (by decide))).trans (heap_alloc_old W _ hw1);
       have mq : w6.cell? ⟨w.heap.size, 0, none⟩ = some (.pointer (some ⟨G.at_, 7, none⟩)) := (World.cell?_of_block (w := W) (a := ⟨w.heap.size, 0, none⟩) hq6).trans p0;
       have m0 : w6.cell? ⟨G.at_, 7, none⟩ = some (.slice Aj P.jobs.length pj) := (World.cell?_of_block (w := W) (a := ⟨G.at_, 7, none⟩) hp6).trans c7;
       have m1 : w6.frozen? ⟨G.at_, 7, none⟩ = false := (World.frozen?_of_block (w := W) (a := ⟨G.at_, 7, none⟩) hp6).trans f7;
       have HO6 := hid ho6; have HG6 := hid hg6; have HGL := hid hgl6; have HLT := hid hlt6; clear ho6 hg6 hgl6 hlt6 hp6 hq6))
  all_goals
    obtain ⟨G', hS', hM'⟩ := Sta.pushJob (J := J) (H.out.below HB6.out) rfl HO6.out (by rw [ej]; exact HG6.out) (by rw [ej]; simpa using HGL.out) HLT.out
    have HS' := hid (St1.of (P' := { P with jobs := P.jobs ++ [J] }) hS' hM')
    have HM' := hid (((SMv.below D G BW.out).trans (SMv.below D G HB6.out)).trans hM')
    clear hS' hM' m0 m1 c7 f7
    go_wp2
    exact bodyPost_end (results_none rfl _ _ _) rfl ⟨rfl, _, _, _, HS'.out, HM'.out⟩
end
end Go.Proofs.Ytdgpblhmfkpblaa.Pg
