/- What a proof further on needs (part c). -/
import Derived.Below
import Derived.BigQuiet
import Derived.Deep.QuietTactic
import Derived.Deep.RegionHeld3
import Derived.Laws.BitsLemmas
import Derived.OrdersHeld
import Derived.RegionTactic
import Derived.RowKit
import Derived.Test.YtibepkblgliooaaKa
import Derived.Test.YtibepkblgliooaaKb
import Derived.Test.YtibepkblgliooaaProg
import Derived.WalkKit
set_option linter.unusedVariables false
namespace Go.Proofs.YtibepkblgliooaaW.PrintWords
open Go.RowKit
namespace Kd
/-- An element with its index: its blocks are those that f gives to it. -/
def tag {α : Type} (f : Nat → Nat) (d : Kd α) : Kd (α × Nat) where
  sz := d.sz
  E := d.E
  K := fun w x cs => d.K w x.1 cs
  M := fun w base ok x cs => d.M w base (fun k => ok k ∧ f k = x.2) x.1 cs
  K_len := fun h => d.K_len h
  K_one := fun h => d.K_one h
  K_below := fun hb h => d.K_below hb h
  K_of_M := fun h => d.K_of_M h
  M_mono := fun hok h => d.M_mono (fun k hk => ⟨hok k hk.1, hk.2⟩) h
  M_bound := fun h => d.M_mono (fun _ hk => ⟨⟨hk.1.1, hk.2⟩, hk.1.2⟩) (d.M_bound h)
  M_move := fun hm h => d.M_move (fun k hk => hm k hk.1) h
  M_lower := fun hb h => d.M_lower hb h
/-- The cells themselves. -/
def raw (sz : Nat) : Kd (List Value) where
  sz := sz
  E := []
  K := fun _ x cs => cs = x ∧ cs.length = sz ∧ ∀ u ∈ cs, u.oneCell' = true
  M := fun _ _ _ x cs => cs = x ∧ cs.length = sz ∧ ∀ u ∈ cs, u.oneCell' = true
  K_len := fun h => h.2.1
  K_one := fun h => h.2.2
  K_below := fun _ h => h
  K_of_M := fun h => h
  M_mono := fun _ h => h
  M_bound := fun h => h
  M_move := fun _ h => h
  M_lower := fun _ h => h
/-- A row of elements (type e) of the call's own, no two of which lead to one block. -/
def S {α : Type} (d : Kd α) (e : Nat) (w : World) (base : Nat) (ok : Nat → Prop) (v : Value) (xs : List α) : Prop := ∃ f, (tag f d).R e w base ok v xs.zipIdx
section
variable {α β : Type} {d : Kd α} {d' : Kd β} {e e' : Nat} {w w1 W : World} {base b : Nat} {ok ok' okv oku : Nat → Prop} {u v : Value} {xs : List α} {ys : List β}
/-- A row whose elements lead to nothing: its blocks are its own one. -/
theorem R_tight (hE : d.E = []) (h : d.R e w base ok v xs) : d.R e w base (fun k => some k = v.ownBlock) v xs := by
  obtain ⟨h0, inner, ho, hr⟩ := h
  refine ⟨fun k hk => hk.symm, inner, ho, hr.imp_ (fun p c hp => d.M_mono (fun k hk => ?_) (d.M_bound hp))⟩
  obtain ⟨_, _, _, q, hq, _⟩ := hk
  rw [hE] at hq
  cases hq
end
end Kd
end Go.Proofs.YtibepkblgliooaaW.PrintWords
namespace Go.Proofs.YtibepkblgliooaaW.PrintWords
open Go.RowKit
namespace Kd
/-- What a kind reads lies in the blocks: nothing else of the world is looked at. -/
structure Heap {α : Type} (d : Kd α) : Prop where
  K : ∀ {w w1 : World} {x : α} {cs : List Value}, (∀ k, k < w.heap.size → w1.heap[k]? = w.heap[k]?) → d.K w x cs → d.K w1 x cs
end Kd
end Go.Proofs.YtibepkblgliooaaW.PrintWords
namespace Go.Proofs.YtibepkblgliooaaW.PrintWords
open Go.RowKit
def Kept (w W : World) (S : Nat → Prop) : Prop := w.heap.size ≤ W.heap.size ∧ ∀ i, i < w.heap.size → ¬ S i → W.heap[i]? = w.heap[i]?
section
variable {w W W2 : World} {S S2 S' : Nat → Prop}
theorem cell_kept {a : Addr} {v : Value} (hc : W.cell? a = some v) (hk : Kept W W2 S) (hne : ¬ S a.block) : W2.cell? a = some v := by
  have := hk.2 a.block (World.block_lt_of_cell? W a hc) hne
  simpa [World.cell?, this] using hc
end
end Go.Proofs.YtibepkblgliooaaW.PrintWords
namespace Go.Proofs.YtibepkblgliooaaW.PrintWords
open Go.RowKit
/-- P holds in W and in every world that has W's blocks of ok. -/
def Foot (P : World → Prop) (W : World) (ok : Nat → Prop) : Prop := ∀ W' : World, (∀ k, ok k → k < W.heap.size → W'.heap[k]? = W.heap[k]?) → P W'
theorem heap_lt {W W1 : World} {k : Nat} (h : W1.heap[k]? = W.heap[k]?) (hlt : k < W.heap.size) : k < W1.heap.size := by
  rw [Array.getElem?_eq_getElem hlt] at h
  exact (Array.getElem?_eq_some_iff.1 h).1
namespace Foot
variable {P Q : World → Prop} {W W1 : World} {ok ok' : Nat → Prop}
theorem now (h : Foot P W ok) : P W := h W (fun _ _ _ => rfl)
theorem mono (h : Foot P W ok) (hok : ∀ k, ok k → ok' k) : Foot P W ok' := fun W' hW => h W' (fun k hk hlt => hW k (hok k hk) hlt)
theorem bound (h : Foot P W ok) : Foot P W (fun k => ok k ∧ k < W.heap.size) := fun W' hW => h W' (fun k hk hlt => hW k ⟨hk, hlt⟩ hlt)
theorem step (h : Foot P W ok) (hm : ∀ k, ok k → k < W.heap.size → W1.heap[k]? = W.heap[k]?) : Foot P W1 ok := fun W' hW => h W' (fun k hk hlt => (hW k hk (heap_lt (hm k hk hlt) hlt)).trans (hm k hk hlt))
theorem imp (h : Foot P W ok) (hi : ∀ W', P W' → Q W') : Foot Q W ok := fun W' hW => hi W' (h W' hW)
end Foot
namespace Kd
/-- A row that is only read: what it leads to lies in ok. -/
def F {α : Type} (d : Kd α) (W : World) (ok : Nat → Prop) (A : Option Addr) (n : Nat) (xs : List α) : Prop := Foot (fun W => d.C W A n xs) W ok
/-- An element's cells: what they lead to lies in ok. -/
def FK {α : Type} (d : Kd α) (W : World) (ok : Nat → Prop) (x : α) (c : List Value) : Prop := Foot (fun W => d.K W x c) W ok
section
variable {α β : Type} {d : Kd α} {e base n n' cc g N : Nat} {ok ok' okp S : Nat → Prop} {w w0 w1 W W1 : World} {A A' : Option Addr} {u v v1 : Value} {xs : List α} {xs' : List β} {d' : Kd β} {x : α} {c : List Value}
theorem F_now (h : F d W ok A n xs) : d.C W A n xs := Foot.now h
theorem F_mono (h : F d W ok A n xs) (hok : ∀ k, ok k → ok' k) : F d W ok' A n xs := Foot.mono h hok
theorem F_bound (h : F d W ok A n xs) : F d W (fun k => ok k ∧ k < W.heap.size) A n xs := Foot.bound h
theorem F_step (h : F d W ok A n xs) (hm : ∀ k, ok k → k < W.heap.size → W1.heap[k]? = W.heap[k]?) : F d W1 ok A n xs := Foot.step h hm
theorem F_imp (h : F d W ok A n xs) (hi : ∀ W', d.C W' A n xs → d'.C W' A' n' xs') : F d' W ok A' n' xs' := Foot.imp h hi
theorem F_below (h : F d W ok A n xs) (hb : Below W.heap.size W W1) : F d W1 ok A n xs := F_step h (fun k _ hlt => hb.block k hlt)
theorem F_alloc (h : F d W ok A n xs) (o : Obj) : F d (W.alloc o) ok A n xs := F_below h (below_alloc (Below.refl _ _) o)
theorem F_nil (d : Kd α) (W : World) (ok : Nat → Prop) : F d W ok none ([] : List α).length [] := fun W' _ => C_nil d W'
theorem F_max (h : F d W ok A n xs) : n ≤ 9223372036854775807 := (F_now h).2.1
/-- The same of an element's cells. -/
theorem FK_now (h : FK d W ok x c) : d.K W x c := Foot.now h
theorem FK_mono (h : FK d W ok x c) (hok : ∀ k, ok k → ok' k) : FK d W ok' x c := Foot.mono h hok
theorem FK_bound (h : FK d W ok x c) : FK d W (fun k => ok k ∧ k < W.heap.size) x c := Foot.bound h
theorem FK_step (h : FK d W ok x c) (hm : ∀ k, ok k → k < W.heap.size → W1.heap[k]? = W.heap[k]?) : FK d W1 ok x c := Foot.step h hm
theorem FK_of_M (h : d.M W base ok x c) : FK d W ok x c := fun _ hW => d.K_of_M (M_step h hW)
/-- A block that is emptied reads no more. -/
theorem emptied (W : World) (g : Nat) : ∃ W' : World, (∀ k, k ≠ g → W'.heap[k]? = W.heap[k]?) ∧ ∀ a : Addr, a.block = g → W'.cell? a = none := by
  refine ⟨{ W with heap := W.heap.setIfInBounds g (.cells #[] 0) }, fun k hk => by simp [Ne.symm hk], fun a ha => ?_⟩
  subst ha
  by_cases hlt : a.block < W.heap.size
  · simp [World.cell?, hlt]
  · simp [World.cell?, hlt]
end
end Kd
end Go.Proofs.YtibepkblgliooaaW.PrintWords
namespace Go.Proofs.YtibepkblgliooaaW.PrintWords
open Go.RowKit
namespace Kd
/-- The cells one behind the other, element by element. -/
def chunks (sz : Nat) (n : Nat) (inner : List Value) : List (List Value) := (List.range n).map fun j => (inner.drop (j * sz)).take sz
theorem chunks_length (sz n : Nat) (inner : List Value) : (chunks sz n inner).length = n := by simp [chunks]
theorem chunks_at {sz n : Nat} {inner : List Value} {j : Nat} (hj : j < n) : (chunks sz n inner)[j]? = some ((inner.drop (j * sz)).take sz) := by simp [chunks, hj]
theorem chunks_get {sz n : Nat} {inner : List Value} {j : Nat} {c : List Value} (h : (chunks sz n inner)[j]? = some c) : c = (inner.drop (j * sz)).take sz := by
  have hj : j < n := by have := (List.getElem?_eq_some_iff.1 h).1; rwa [chunks_length] at this
  rw [chunks_at hj] at h
  injection h with h
  exact h.symm
theorem reps_raw {α : Type} {Rr : α → List Value → Prop} {sz : Nat} {xs : List α} {inner : List Value} (h : Reps Rr sz xs inner) (hR : ∀ x c, Rr x c → c.length = sz ∧ ∀ u ∈ c, u.oneCell' = true) : Reps (fun x cs => cs = x ∧ cs.length = sz ∧ ∀ u ∈ cs, u.oneCell' = true) sz (chunks sz xs.length inner) inner := by
  refine ⟨by rw [chunks_length]; exact h.1, fun j p hj => ?_⟩
  have hjl : j < xs.length := by have := (List.getElem?_eq_some_iff.1 hj).1; rwa [chunks_length] at this
  have hp := chunks_get hj
  exact ⟨hp.symm, hR _ _ (h.2 j _ (List.getElem?_eq_getElem hjl))⟩
section
variable {α : Type} {d : Kd α} {e base n cc g : Nat} {ok ok' okp S : Nat → Prop} {w w1 W W1 : World} {A : Option Addr} {u v v1 : Value} {xs : List α} {x : α} {c : List Value}
/-- Element i of a row that is read: its cells, and what they lead to, in ok. -/
theorem F_get (h : F d W ok A n xs) (z : α) (i : Int) (h0 : 0 ≤ i) (h1 : i < n) :
    ∃ ad c, A = some ad ∧ c.length = d.sz ∧ FK d W ok (xs.getD i.toNat z) c ∧ (∀ j u, c[j]? = some u → W.cell? (ad.add (i.toNat * d.sz + j)) = some u) ∧ (0 < d.sz → ok ad.block) := by
  obtain ⟨ad, c, rfl, hcl, hK, hcc⟩ := C_get (F_now h) z i h0 h1
  have hin : 0 < d.sz → ok ad.block := by
    intro hs
    by_cases hk : ok ad.block
    · exact hk
    · obtain ⟨W', h2, h3⟩ := emptied W ad.block
      obtain ⟨ad', c', he, hcl', _, hcc'⟩ := C_get (h W' (fun k hk' _ => h2 k (fun e => hk (e ▸ hk')))) z i h0 h1
      injection he with he
      subst he
      have h4 := hcc' 0 _ (List.getElem?_eq_getElem (by omega))
      rw [h3 _ (add_block _ _)] at h4
      cases h4
  refine ⟨ad, c, rfl, hcl, fun W' hW => ?_, hcc, hin⟩
  obtain ⟨ad', c', he, hcl', hK', hcc'⟩ := C_get (h W' hW) z i h0 h1
  injection he with he
  subst he
  have hc : c = c' := by
    apply List.ext_getElem?
    intro j
    by_cases hj : j < d.sz
    · have hb : W'.heap[ad.block]? = W.heap[ad.block]? := by
        have h5 := hcc j _ (List.getElem?_eq_getElem (by omega))
        have h6 := World.block_lt_of_cell? W _ h5
        rw [add_block] at h6
        exact hW _ (hin (by omega)) h6
      have h5 := hcc j _ (List.getElem?_eq_getElem (by omega))
      have h6 := hcc' j _ (List.getElem?_eq_getElem (by omega))
      have h7 : W'.cell? (ad.add (i.toNat * d.sz + j)) = W.cell? (ad.add (i.toNat * d.sz + j)) := by simp [World.cell?, add_block, hb]
      rw [h7, h5] at h6
      rw [List.getElem?_eq_getElem (by omega), List.getElem?_eq_getElem (by omega)]
      exact h6
    · rw [List.getElem?_eq_none (by omega), List.getElem?_eq_none (by omega)]
  rw [hc]
  exact hK'
/-- .. as_ a row of such elements. -/
theorem F_rows (h : F d W ok A n xs) : ReadsRow (fun x c => FK d W ok x c) d.sz W A n xs := by
  obtain ⟨hl, hm, hn⟩ := F_now h
  refine ⟨hl, hm, fun hp => ?_⟩
  obtain ⟨ad, rfl, _⟩ := hn hp
  refine ⟨ad, rfl, fun j p hj => ?_⟩
  obtain ⟨hjl, hjp⟩ := List.getElem?_eq_some_iff.1 hj
  obtain ⟨ad', c, he, hcl, hK, hcc, _⟩ := F_get h p (j : Int) (by omega) (by omega)
  injection he with he
  subst he
  simp only [Int.toNat_natCast] at hK hcc
  rw [List.getD_eq_getElem?_getD, hj] at hK
  exact ⟨c, hcl, hK, hcc⟩
/-- A row of elements (type e) of the call's own; what the elements lead to is only read, and is not this row. -/
def N {α : Type} (d : Kd α) (e : Nat) (w : World) (base : Nat) (ok : Nat → Prop) (v : Value) (xs : List α) : Prop :=
  (∀ k, v.ownBlock = some k → ok k) ∧ ∃ rows : List (List Value), rows.length = xs.length ∧ (raw d.sz).R e w base (fun k => some k = v.ownBlock) v rows ∧ ∀ (j : Nat) (x : α) (c : List Value), xs[j]? = some x → rows[j]? = some c → FK d w (fun k => ok k ∧ some k ≠ v.ownBlock) x c
theorem raw_tight {sz : Nat} {rows : List (List Value)} (h : (raw sz).R e w base ok v rows) : (raw sz).R e w base (fun k => some k = v.ownBlock) v rows := R_tight rfl h
theorem raw_any {sz : Nat} {rows : List (List Value)} (h : (raw sz).R e w base ok v rows) : (raw sz).R e w base (fun _ => True) v rows := R_mono h (fun _ _ => trivial)
theorem R_N (h : d.R e w base ok v xs) : N d e w base ok v xs := by
  obtain ⟨h0, inner, ho, hr⟩ := h
  refine ⟨h0, chunks d.sz xs.length inner, chunks_length _ _ _, ⟨fun k hk => hk.symm, inner, by rw [chunks_length]; exact ho, reps_raw hr (fun x c hp => ⟨d.K_len (d.K_of_M hp), d.K_one (d.K_of_M hp)⟩)⟩, fun j x c hx hc => ?_⟩
  rw [chunks_get hc]
  exact FK_of_M (hr.2 j x hx)
theorem N_nil (d : Kd α) (e : Nat) (w : World) (base : Nat) (ok : Nat → Prop) : N d e w base ok (.slice none 0 0) [] := R_N (R_nil _ _ _ _ _)
theorem N_mono (h : N d e w base ok v xs) (hok : ∀ k, ok k → ok' k) : N d e w base ok' v xs := by
  obtain ⟨h0, rows, hl, hR, hf⟩ := h
  exact ⟨fun k hk => hok k (h0 k hk), rows, hl, hR, fun j x c hx hc => FK_mono (hf j x c hx hc) (fun k hk => ⟨hok k hk.1, hk.2⟩)⟩
theorem N_lt (h : N d e w base ok v xs) : ∀ k, v.ownBlock = some k → k < w.heap.size := by
  obtain ⟨_, rows, _, hR, _⟩ := h
  exact R_lt hR
theorem N_bound (h : N d e w base ok v xs) : N d e w base (fun k => ok k ∧ k < w.heap.size) v xs := by
  have hlt := N_lt h
  obtain ⟨h0, rows, hl, hR, hf⟩ := h
  exact ⟨fun k hk => ⟨h0 k hk, hlt k hk⟩, rows, hl, hR, fun j x c hx hc => FK_mono (FK_bound (hf j x c hx hc)) (fun k hk => ⟨⟨hk.1.1, hk.2⟩, hk.1.2⟩)⟩
theorem N_lower {base' : Nat} (h : N d e w base ok v xs) (hb : base' ≤ base) : N d e w base' ok v xs := by
  obtain ⟨h0, rows, hl, hR, hf⟩ := h
  exact ⟨h0, rows, hl, R_lower hR hb, hf⟩
theorem N_step (h : N d e w base ok v xs) (hm : ∀ k, ok k → k < w.heap.size → w1.heap[k]? = w.heap[k]?) : N d e w1 base ok v xs := by
  obtain ⟨h0, rows, hl, hR, hf⟩ := h
  exact ⟨h0, rows, hl, R_step hR (fun k hk hlt => hm k (h0 k hk.symm) hlt), fun j x c hx hc => FK_step (hf j x c hx hc) (fun k hk hlt => hm k hk.1 hlt)⟩
theorem N_below (h : N d e w base ok v xs) (hb : Below w.heap.size w w1) : N d e w1 base ok v xs := N_step h (fun k _ hk => hb.block k hk)
theorem N_drew (h : N d e w base ok v xs) : N d e w.drew base ok v xs := N_below h (below_drew (Below.refl _ _))
theorem N_drewN (h : N d e w base ok v xs) (m : Nat) : N d e (w.drewN m) base ok v xs := N_below h (pw_below_drewN (Below.refl _ _) m)
theorem N_far (h : N d e w base ok v xs) {p : Addr} (hok : ∀ k, ok k → k ≠ p.block) (u : Value) : N d e (w.setCell p u) base ok v xs := N_step h (fun k ho _ => Below.heap_setCell w p u k (hok k ho))
theorem N_kept (h : N d e w base ok v xs) (hk : Kept w w1 S) (hok : ∀ k, ok k → ¬ S k) : N d e w1 base ok v xs := N_step h (fun k ho hlt => hk.2 k hlt (hok k ho))
theorem N_slice (h : N d e w base ok v xs) : ∃ A c, v = .slice A xs.length c := by
  obtain ⟨_, rows, hl, hR, _⟩ := h
  obtain ⟨A, c, he⟩ := R_slice hR
  exact ⟨A, c, by rw [he, hl]⟩
theorem N_form (h : N d e w base ok v xs) (hp : 0 < xs.length) : ∃ g cap, v = .slice (some ⟨g, 0, none⟩) xs.length cap ∧ base ≤ g ∧ g < w.heap.size ∧ ∃ cells, w.heap[g]? = some (.cells cells e (0, 0)) := by
  obtain ⟨_, rows, hl, hR, _⟩ := h
  rw [← hl] at hp ⊢
  exact R_form hR hp
theorem N_reads' {n c : Nat} (h : N d e w base ok (.slice A n c) xs) : n = xs.length ∧ n ≤ c ∧ d.C w A xs.length xs := by
  obtain ⟨_, rows, hl, hR, hf⟩ := h
  obtain ⟨hn, hc, hC⟩ := R_reads' hR
  refine ⟨by omega, hc, ?_⟩
  rw [hl] at hC
  refine ⟨rfl, hC.2.1, fun hp => ?_⟩
  obtain ⟨ad, he, hcell⟩ := hC.2.2 hp
  refine ⟨ad, he, fun j p hj => ?_⟩
  have hjl : j < rows.length := by have := (List.getElem?_eq_some_iff.1 hj).1; omega
  obtain ⟨c', hcl, hK, hcc⟩ := hcell j _ (List.getElem?_eq_getElem hjl)
  have hk := FK_now (hf j p _ hj (List.getElem?_eq_getElem hjl))
  refine ⟨c', hcl, ?_, hcc⟩
  rw [show c' = rows[j] from hK.1]
  exact hk
theorem N_F {n : Nat} (h : N d e w base ok (.slice A n cc) xs) : F d w ok A n xs := fun W' hW => by
  have h2 := N_reads' (N_step h hW)
  rw [h2.1]
  exact h2.2.2
/-- Element i: its cells, and what they lead to. -/
theorem N_elem {n cap : Nat} (h : N d e W base ok (.slice (some ⟨g, 0, none⟩) n cap) xs) (z : α) (i : Int) (h0 : 0 ≤ i) (h1 : i < n) :
    ∃ c, c.length = d.sz ∧ FK d W (fun k => ok k ∧ k ≠ g) (xs.getD i.toNat z) c ∧ (∀ j u, c[j]? = some u → W.cell? ⟨g, i.toNat * d.sz + j, none⟩ = some u) ∧ ∀ j, W.frozen? ⟨g, i.toNat * d.sz + j, none⟩ = false := by
  obtain ⟨_, rows, hl, hR, hf⟩ := h
  have hn := (R_reads' hR).1
  obtain ⟨c, hcl, hM, hcc, hfr⟩ := R_elem hR [] i h0 h1
  have hil : i.toNat < rows.length := by omega
  have hil' : i.toNat < xs.length := by omega
  have hc : c = rows[i.toNat] := by
    have h2 := hM.1
    rwa [List.getD_eq_getElem?_getD, List.getElem?_eq_getElem hil] at h2
  refine ⟨c, hcl, ?_, hcc, hfr⟩
  rw [List.getD_eq_getElem?_getD, List.getElem?_eq_getElem hil']
  exact FK_mono (hf _ _ _ (List.getElem?_eq_getElem hil') (by rw [hc]; exact List.getElem?_eq_getElem hil)) (fun k hk => ⟨hk.1, fun he => hk.2 (by rw [he]; simp [Value.ownBlock])⟩)
end
end Kd
end Go.Proofs.YtibepkblgliooaaW.PrintWords
namespace Go.Proofs.YtibepkblgliooaaW.PrintWords
open Go.RowKit
namespace Kd
section
variable {α : Type} {d : Kd α} {e base n cap g : Nat} {ok ok' okp : Nat → Prop} {w w1 W : World} {v v1 : Value} {xs ys : List α}
/-- Behind an append: the old elements and the new ones, moved. -/
theorem N_appended {rows news : List (List Value)} (h0 : ∀ k, v.ownBlock = some k → ok k) (hl : rows.length = xs.length) (hf : ∀ (j : Nat) (x : α) (c : List Value), xs[j]? = some x → rows[j]? = some c → FK d W (fun k => ok k ∧ some k ≠ v.ownBlock) x c)
    (hl2 : news.length = ys.length) (hf2 : ∀ (j : Nat) (x : α) (c : List Value), ys[j]? = some x → news[j]? = some c → FK d W okp x c) (hokp : ∀ k, okp k → ok k ∧ some k ≠ v.ownBlock) (hfresh : ∀ k, W.heap.size ≤ k → ok k)
    (hR : (raw d.sz).R e w1 base (fun _ => True) v1 (rows ++ news)) (hg : W.grownBy w1 v.ownBlock) (hat : v1.ownBlock = v.ownBlock ∨ ∃ b, v1.ownBlock = some b ∧ W.heap.size ≤ b) : N d e w1 base ok v1 (xs ++ ys) := by
  have hne : ∀ k, some k ≠ v.ownBlock → k < W.heap.size → some k ≠ v1.ownBlock := by
    intro k hk hlt
    rcases hat with hat | ⟨b, hb, hle⟩
    · rw [hat]; exact hk
    · rw [hb]
      intro he
      injection he with he
      omega
  have step : ∀ {x : α} {c : List Value} {o : Nat → Prop}, FK d W o x c → (∀ k, o k → ok k ∧ some k ≠ v.ownBlock) → FK d w1 (fun k => ok k ∧ some k ≠ v1.ownBlock) x c := by
    intro x c o hq ho
    exact FK_mono (FK_step (FK_bound hq) (fun k hk hlt => hg.block k hlt (ho k hk.1).2)) (fun k hk => ⟨(ho k hk.1).1, hne k (ho k hk.1).2 hk.2⟩)
  refine ⟨fun k hk => ?_, rows ++ news, by rw [List.length_append, List.length_append, hl, hl2], raw_tight hR, fun j x c hx hc => ?_⟩
  · rcases hat with hat | ⟨b, hb, hle⟩
    · exact h0 k (hat ▸ hk)
    · rw [hb] at hk
      injection hk with hk
      exact hfresh k (by omega)
  · rcases Nat.lt_or_ge j xs.length with hlt | hge
    · rw [List.getElem?_append_left hlt] at hx
      rw [List.getElem?_append_left (by omega)] at hc
      exact step (hf j x c hx hc) (fun _ hk => hk)
    · rw [List.getElem?_append_right hge] at hx
      rw [List.getElem?_append_right (by omega), hl] at hc
      exact step (hf2 _ x c hx hc) hokp
theorem FK_raw {x : α} {c : List Value} (h : FK d W ok x c) : c = c ∧ c.length = d.sz ∧ ∀ u ∈ c, u.oneCell' = true := ⟨rfl, d.K_len (FK_now h), d.K_one (FK_now h)⟩
/-- xs = xs[:m]. -/
theorem N_take {A : Option Addr} {m c : Nat} (h : N d e w base ok (.slice A n c) xs) (hm : m ≤ xs.length) : N d e w base ok (.slice A m c) (xs.take m) := by
  obtain ⟨h0, rows, hl, hR, hf⟩ := h
  have hb : ∀ x y : Nat, (Value.slice A x c).ownBlock = (Value.slice A y c).ownBlock := by
    intro x y
    cases A <;> rfl
  refine ⟨fun k hk => h0 k (by rw [hb _ m]; exact hk), rows.take m, by rw [List.length_take, List.length_take, hl], raw_tight (R_take (raw_any hR) (by omega)), fun j x c' hx hc => ?_⟩
  rw [List.getElem?_take] at hx hc
  split at hx
  · rename_i hj
    rw [if_pos hj] at hc
    rw [hb m n]
    exact hf j x c' hx hc
  · cases hx
/-- What is read as_ a row, as_ rows of cells. -/
theorem reads_raw {Rr : α → List Value → Prop} {sz m : Nat} {A : Option Addr} (h : ReadsRow Rr sz W A m ys) (hR : ∀ x c, Rr x c → c.length = sz ∧ ∀ u ∈ c, u.oneCell' = true) :
    ∃ news : List (List Value), news.length = ys.length ∧ ReadsRow (fun x cs => cs = x ∧ cs.length = sz ∧ ∀ u ∈ cs, u.oneCell' = true) sz W A m news ∧ ∀ (j : Nat) (x : α) (c : List Value), ys[j]? = some x → news[j]? = some c → Rr x c := by
  rcases Nat.eq_zero_or_pos m with h0 | hp
  · have hy : ys = [] := List.eq_nil_of_length_eq_zero (h.1.trans h0)
    subst hy
    exact ⟨[], rfl, ⟨h0 ▸ rfl, h.2.1, fun hp => by omega⟩, fun j x c hx => by simp at hx⟩
  · obtain ⟨ad, rfl, _⟩ := h.2.2 hp
    obtain ⟨inner, hr, hc⟩ := ReadsRow.inner_ h
    refine ⟨chunks sz ys.length inner, chunks_length _ _ _, ⟨by rw [chunks_length]; exact h.1, h.2.1, fun _ => ⟨ad, rfl, fun j p hj => ?_⟩⟩, fun j x c hx hcc => ?_⟩
    · have hjl : j < ys.length := by have := (List.getElem?_eq_some_iff.1 hj).1; rwa [chunks_length] at this
      have hpe := chunks_get hj
      have hq := hR _ _ (hr.2 j _ (List.getElem?_eq_getElem hjl))
      rw [← hpe] at hq
      refine ⟨p, hq.1, ⟨rfl, hq⟩, fun i u hu => ?_⟩
      have hu2 : inner[j * sz + i]? = some u := by
        rw [hpe, List.getElem?_take] at hu
        split at hu
        · rw [List.getElem?_drop] at hu
          exact hu
        · cases hu
      exact hc _ u hu2
    · rw [chunks_get hcc]
      exact hr.2 j x hx
end
section
variable {P : Program} {ops : Array Oper} {rest : List Oper} {o : Oper} {a : Act} {Q : Exit → Act → World → Prop} {Kc : Act → World → Prop} {α : Type}
/-- append(v, x), behind 'at_builtin': x's cells are cs. -/
theorem N_append (d : Kd α) {w0 W : World} (base : Nat) (hgd : o.guard = none) (s x : Operand) (t e : TypeId) (z : Value) (bytes : Nat)
    (ho : o.op = .call { callee := .builtin .append, args := #[s, x], argTypes := #[t, t] })
    (ht : P.underlying t = some (.slice e)) (hinfo : (P.info? e).map (fun i => (i.zero, i.size, i.bytes)) = some (some z, d.sz, bytes)) (hz : z.cells.size = d.sz) (hs0 : 0 < d.sz) (hb0 : 0 < bytes)
    (v : Value) (xs : List α) (p : α) (cs : List Value) (ok okp : Nat → Prop) (hs : a.eval s = v) (hx : a.eval x = .slice (some ⟨W.heap.size, 0, none⟩) 1 1) (hp : FK d W okp p cs) (hokp : ∀ k, okp k → ok k ∧ some k ≠ v.ownBlock) (hfresh : ∀ k, W.heap.size ≤ k → ok k)
    (HO : N d e W base ok v xs) (HB : Below base w0 W) (hbase : base ≤ W.heap.size) (hl : (xs.length + 1) * bytes ≤ 140737488355328)
    (h : ∀ v1 w1, N d e w1 base ok v1 (xs ++ [p]) → Below base w0 w1 → W.grownBy w1 v.ownBlock → (v1.ownBlock = v.ownBlock ∨ ∃ b, v1.ownBlock = some b ∧ W.heap.size ≤ b) → wpList P ops Q rest (a.put o.dst v1) w1) :
    wpList P ops Q (o :: rest) a (W.alloc (.cells cs.toArray e)) := by
  obtain ⟨h0, rows, hlr, hR, hf⟩ := HO
  refine R_append (raw d.sz) base hgd s x t e z bytes ho ht hinfo hz hs0 hb0 v rows cs cs (fun _ => True) (fun _ => False) hs hx (FK_raw hp) (fun _ hk => hk.elim) (fun _ _ => trivial) (raw_any hR) HB hbase (by rw [hlr]; exact hl) ?_
  intro v1 w1 hr hb hg hat
  exact h v1 w1 (N_appended h0 hlr hf (ys := [p]) (news := [cs]) rfl (fun j y c hy hc => by
    rcases j with _ | j
    · simp only [List.getElem?_cons_zero, Option.some.injEq] at hy hc
      rw [← hy, ← hc]; exact hp
    · simp at hy) hokp hfresh hr hg hat) hb hg hat
theorem N_append_step (d : Kd α) {w0 W : World} (base : Nat) (hw : Region.wanted o (yielded ops a.tmps) = true) (s x : Operand) (t e : TypeId) (z : Value) (bytes : Nat)
    (ho : o.op = .call { callee := .builtin .append, args := #[s, x], argTypes := #[t, t] })
    (ht : P.underlying t = some (.slice e)) (hinfo : (P.info? e).map (fun i => (i.zero, i.size, i.bytes)) = some (some z, d.sz, bytes)) (hz : z.cells.size = d.sz) (hs0 : 0 < d.sz) (hb0 : 0 < bytes)
    (v : Value) (xs : List α) (p : α) (cs : List Value) (ok okp : Nat → Prop) (hs : a.eval s = v) (hx : a.eval x = .slice (some ⟨W.heap.size, 0, none⟩) 1 1) (hp : FK d W okp p cs) (hokp : ∀ k, okp k → ok k ∧ some k ≠ v.ownBlock) (hfresh : ∀ k, W.heap.size ≤ k → ok k)
    (HO : N d e W base ok v xs) (HB : Below base w0 W) (hbase : base ≤ W.heap.size) (hl : (xs.length + 1) * bytes ≤ 140737488355328)
    (h : ∀ v1 w1, N d e w1 base ok v1 (xs ++ [p]) → Below base w0 w1 → W.grownBy w1 v.ownBlock → (v1.ownBlock = v.ownBlock ∨ ∃ b, v1.ownBlock = some b ∧ W.heap.size ≤ b) → Kc (a.put o.dst v1) w1) :
    if Region.wanted o (yielded ops a.tmps) = true then Oper.wp P o a (W.alloc (.cells cs.toArray e)) Kc Q else Kc (a.put o.dst undef) (W.alloc (.cells cs.toArray e)) := by
  obtain ⟨h0, rows, hlr, hR, hf⟩ := HO
  refine R_append_step (raw d.sz) base hw s x t e z bytes ho ht hinfo hz hs0 hb0 v rows cs cs (fun _ => True) (fun _ => False) hs hx (FK_raw hp) (fun _ hk => hk.elim) (fun _ _ => trivial) (raw_any hR) HB hbase (by rw [hlr]; exact hl) ?_
  intro v1 w1 hr hb hg hat
  exact h v1 w1 (N_appended h0 hlr hf (ys := [p]) (news := [cs]) rfl (fun j y c hy hc => by
    rcases j with _ | j
    · simp only [List.getElem?_cons_zero, Option.some.injEq] at hy hc
      rw [← hy, ← hc]; exact hp
    · simp at hy) hokp hfresh hr hg hat) hb hg hat
/-- append(v, ys...): ys is read (F). -/
theorem N_append_rows (d : Kd α) {w0 W : World} (base : Nat) (hgd : o.guard = none) (s x : Operand) (t e : TypeId) (z : Value) (bytes : Nat)
    (ho : o.op = .call { callee := .builtin .append, args := #[s, x], argTypes := #[t, t] })
    (ht : P.underlying t = some (.slice e)) (hinfo : (P.info? e).map (fun i => (i.zero, i.size, i.bytes)) = some (some z, d.sz, bytes)) (hz : z.cells.size = d.sz) (hs0 : 0 < d.sz) (hb0 : 0 < bytes)
    (v : Value) (xs ys : List α) (A : Option Addr) (m c : Nat) (ok okp : Nat → Prop) (hs : a.eval s = v) (hx : a.eval x = .slice A m c)
    (HO : N d e W base ok v xs) (HR : F d W okp A m ys) (hokp : ∀ k, okp k → ok k ∧ some k ≠ v.ownBlock) (hfresh : ∀ k, W.heap.size ≤ k → ok k)
    (HB : Below base w0 W) (hbase : base ≤ W.heap.size) (hl : (xs.length + m) * bytes ≤ 140737488355328)
    (h : ∀ v1 w1, N d e w1 base ok v1 (xs ++ ys) → Below base w0 w1 → W.grownBy w1 v.ownBlock → (v1.ownBlock = v.ownBlock ∨ ∃ b, v1.ownBlock = some b ∧ W.heap.size ≤ b) → wpList P ops Q rest (a.put o.dst v1) w1) :
    wpList P ops Q (o :: rest) a W := by
  obtain ⟨h0, rows, hlr, hR, hf⟩ := HO
  obtain ⟨news, hnl, hnr, hnf⟩ := reads_raw (F_rows HR) (fun y c hk => ⟨d.K_len (FK_now hk), d.K_one (FK_now hk)⟩)
  refine R_append_rows (raw d.sz) base hgd s x t e z bytes ho ht hinfo hz hs0 hb0 v rows news A m c (fun _ => True) (fun _ => False) hs hx (raw_any hR) hnr (fun _ _ hk => hk) (fun _ hk => hk.elim) (fun _ _ => trivial) HB hbase (by rw [hlr]; exact hl) ?_
  intro v1 w1 hr hb hg hat
  exact h v1 w1 (N_appended h0 hlr hf hnl hnf hokp hfresh hr hg hat) hb hg hat
end
end Kd
end Go.Proofs.YtibepkblgliooaaW.PrintWords
namespace Go.Proofs.Ytibepkblgliooaa.Q
open Go.RowKit
open Go.Proofs.YtibepkblgliooaaW.PrintWords
/-- A fact that no tactic looks into. -/
structure Box (p : Prop) : Prop where mk :: (out : p)
theorem hid {p : Prop} (h : p) : Box p := ⟨h⟩
def ptr (b : Nat) : Value := .pointer (some ⟨b, 0, none⟩)
/-- What a call keeps: all but the blocks of K, and what lies outside the heap. -/
structure Kp (K : Nat → Prop) (w w' : World) : Prop where
  os : w'.os = w.os
  tape : w'.tape = w.tape
  output : w'.output = w.output
  size : w.heap.size ≤ w'.heap.size
  block : ∀ k, k < w.heap.size → ¬ K k → w'.heap[k]? = w.heap[k]?
section
variable {K K' : Nat → Prop} {w w' w'' : World}
theorem Kp.kept (h : Kp K w w') : Kept w w' K := ⟨h.size, h.block⟩
theorem Kp.refl (K : Nat → Prop) (w : World) : Kp K w w := ⟨rfl, rfl, rfl, Nat.le_refl _, fun _ _ _ => rfl⟩
theorem Kp.of_below (h : Below w.heap.size w w') : Kp K w w' := ⟨h.os, h.tape, h.output, h.size, fun k hk _ => h.block k hk⟩
theorem Kp.trans (h : Kp K w w') (g : Kp K' w' w'') (hs : ∀ k, K' k → K k ∨ w.heap.size ≤ k) : Kp K w w'' :=
  ⟨g.os.trans h.os, g.tape.trans h.tape, g.output.trans h.output, Nat.le_trans h.size g.size, fun k hk hn => (g.block k (Nat.lt_of_lt_of_le hk h.size) (fun h' => (hs k h').elim hn (by omega))).trans (h.block k hk hn)⟩
theorem Kp.below (h : Kp K w w') (g : Below w'.heap.size w' w'') : Kp K w w'' := h.trans (Kp.of_below (K := fun _ => False) g) (fun _ h => h.elim)
theorem Kp.set {p : Addr} (u : Value) (h : K p.block) : Kp K w (w.setCell p u) := ⟨rfl, rfl, rfl, by simp, fun k _ hn => Below.heap_setCell _ _ _ _ (fun e => hn (by rw [e]; exact h))⟩
theorem Kp.grown {row : Option Nat} (hg : w.grownBy w' row) (h : ∀ k, row = some k → K k) : Kp K w w' := ⟨hg.os, hg.tape, hg.output, hg.size, fun k hk hn => hg.block k hk (fun e => hn (h k e.symm))⟩
theorem Kp.mono (h : Kp K w w') (hs : ∀ k, K k → K' k) : Kp K' w w' := ⟨h.os, h.tape, h.output, h.size, fun k hk hn => h.block k hk (fun h' => hn (hs k h'))⟩
/-- What is new may turn: below, nothing has. -/
theorem Kp.to_below (h : Kp K w w') {n : Nat} (hn : n ≤ w.heap.size) (hs : ∀ k, K k → n ≤ k) : Below n w w' := ⟨h.os, h.tape, h.output, h.size, fun k hk => h.block k (by omega) (fun h' => by have := hs k h'; omega)⟩
theorem Kp.heap (h : Kp K w w') {g : Nat} {o : Obj} (hg : w.heap[g]? = some o) (hn : ¬ K g) : w'.heap[g]? = some o := (h.block g (Array.getElem?_eq_some_iff.1 hg).1 hn).trans hg
end
def ints (l : List Nat) : List Int := l.map Int.ofNat
theorem ints_length (l : List Nat) : (ints l).length = l.length := by simp [ints]
/-- A node's six cells. -/
def kNd : Kd Nd := Kd.iso (Kd.pair (Kd.int .i64) (Kd.pair (Kd.int .i64) (Kd.pair Kd.string (Kd.pair (Kd.slice 9 Kd.string) (Kd.pair (Kd.slice 3 (Kd.int .i64)) (Kd.int .i64)))))) (fun x : Nd => (x.kind, x.num, x.text, x.names, ints x.kids, (x.at_ : Int)))
theorem kNd_open {w : World} {x : Nd} {cs : List Value} (h : kNd.K w x cs) : ∃ A3 c3 A4 c4, cs = [.int .i64 x.kind, .int .i64 x.num, .string x.text, .slice A3 x.names.length c3, .slice A4 x.kids.length c4, .int .i64 x.at_] ∧ x.names.length ≤ c3 ∧ Kd.string.C w A3 x.names.length x.names ∧ x.kids.length ≤ c4 ∧ (Kd.int .i64).C w A4 x.kids.length (ints x.kids) := by
  obtain ⟨_, _, rfl, rfl, _, _, rfl, rfl, _, _, rfl, rfl, _, _, rfl, ⟨A3, c3, rfl, l3, h3⟩, _, _, rfl, ⟨A4, c4, rfl, l4, h4⟩, rfl⟩ := h
  refine ⟨A3, c3, A4, c4, ?_, l3, h3, ?_, ?_⟩
  · simp [ints_length]
  · simpa [ints_length] using l4
  · simpa [ints_length] using h4
theorem kNd_mkF (W : World) (ok : Nat → Prop) (x : Nd) {A3 : Option Addr} {c3 : Nat} (l3 : x.names.length ≤ c3) (g3 : Kd.F Kd.string W ok A3 x.names.length x.names) {A4 : Option Addr} {c4 : Nat} (l4 : x.kids.length ≤ c4) (g4 : Kd.F (Kd.int .i64) W ok A4 x.kids.length (ints x.kids)) :
    Kd.FK kNd W ok x [.int .i64 x.kind, .int .i64 x.num, .string x.text, .slice A3 x.names.length c3, .slice A4 x.kids.length c4, .int .i64 x.at_] := fun W2 hW =>
  ⟨[.int .i64 x.kind], [.int .i64 x.num, .string x.text, .slice A3 x.names.length c3, .slice A4 x.kids.length c4, .int .i64 x.at_], rfl, rfl, [.int .i64 x.num], [.string x.text, .slice A3 x.names.length c3, .slice A4 x.kids.length c4, .int .i64 x.at_], rfl, rfl, [.string x.text], [.slice A3 x.names.length c3, .slice A4 x.kids.length c4, .int .i64 x.at_], rfl, rfl,
    [.slice A3 x.names.length c3], [.slice A4 x.kids.length c4, .int .i64 x.at_], rfl, ⟨A3, c3, rfl, l3, g3 W2 hW⟩, [.slice A4 x.kids.length c4], [.int .i64 x.at_], rfl, ⟨A4, c4, by simp [ints_length], by simpa [ints_length] using l4, by have := g4 W2 hW; simpa [ints_length] using this⟩, rfl⟩
/-- A parser's ten cells. -/
def psRow (S : Ps) (v : Value) : Array Value := #[.string S.src, .int .i64 S.t.kind, .string S.t.text, .int .i64 S.t.num, .int .i64 S.t.at_, .bool S.t.line, .int .i64 S.end_, v, .int .i64 S.deep, .bool S.bad]
/-- A parser in memory: its block a, its row of nodes v; all that lies in blocks of ok. -/
structure PI (w : World) (a : Nat) (ok : Nat → Prop) (v : Value) (S : Ps) : Prop where
  cell : w.heap[a]? = some (.cells (psRow S v) 60 (0, 0))
  row : Kd.N kNd 37 w 0 ok v S.l
  off : ¬ ok a
  fit : S.src.size ≤ 4096 ∧ S.end_ ≤ S.src.size
  lo : ∀ k, ok k → k < w.heap.size
/-- What a call of a parser's comes to. -/
def Nx (w : World) (a : Nat) (ok : Nat → Prop) (w' : World) (S' : Ps) : Prop :=
  ∃ ok' v', PI w' a ok' v' S' ∧ Kp (fun k => k = a ∨ ok k) w w' ∧ ∀ k, ok' k → ok k ∨ w.heap.size ≤ k
section
variable {w w' w'' : World} {a : Nat} {ok ok' : Nat → Prop} {v : Value} {S S' : Ps} {K : Nat → Prop}
theorem PI.lt (h : PI w a ok v S) : a < w.heap.size := (Array.getElem?_eq_some_iff.1 h.cell).1
theorem PI.c (h : PI w a ok v S) {i : Nat} {u : Value} (hu : (psRow S v)[i]? = some u) : w.cell? ⟨a, i, none⟩ = some u := (cell_of_row _ _ _ _ _ _ h.cell).trans hu
theorem PI.c0 (h : PI w a ok v S) : w.cell? ⟨a, 0, none⟩ = some (.string S.src) := h.c rfl
theorem PI.c1 (h : PI w a ok v S) : w.cell? ⟨a, 1, none⟩ = some (.int .i64 S.t.kind) := h.c rfl
theorem PI.c2 (h : PI w a ok v S) : w.cell? ⟨a, 2, none⟩ = some (.string S.t.text) := h.c rfl
theorem PI.c3 (h : PI w a ok v S) : w.cell? ⟨a, 3, none⟩ = some (.int .i64 S.t.num) := h.c rfl
theorem PI.c4 (h : PI w a ok v S) : w.cell? ⟨a, 4, none⟩ = some (.int .i64 S.t.at_) := h.c rfl
theorem PI.c5 (h : PI w a ok v S) : w.cell? ⟨a, 5, none⟩ = some (.bool S.t.line) := h.c rfl
theorem PI.c6 (h : PI w a ok v S) : w.cell? ⟨a, 6, none⟩ = some (.int .i64 S.end_) := h.c rfl
theorem PI.c7 (h : PI w a ok v S) : w.cell? ⟨a, 7, none⟩ = some (v) := h.c rfl
theorem PI.c8 (h : PI w a ok v S) : w.cell? ⟨a, 8, none⟩ = some (.int .i64 S.deep) := h.c rfl
theorem PI.c9 (h : PI w a ok v S) : w.cell? ⟨a, 9, none⟩ = some (.bool S.bad) := h.c rfl
theorem PI.f (h : PI w a ok v S) (i : Nat) : w.frozen? ⟨a, i, none⟩ = false := by simp [World.frozen?, h.cell]
theorem PI.kept (h : PI w a ok v S) (hk : Kp K w w') (ha : ¬ K a) (hK : ∀ k, ok k → ¬ K k) : PI w' a ok v S := ⟨hk.heap h.cell ha, Kd.N_kept h.row hk.kept hK, h.off, h.fit, fun k hk' => Nat.lt_of_lt_of_le (h.lo k hk') hk.size⟩
theorem PI.below (h : PI w a ok v S) (hb : Below w.heap.size w w') : PI w' a ok v S := h.kept (Kp.of_below (K := fun _ => False) hb) (fun h => h) (fun _ _ h => h)
theorem PI.set (h : PI w a ok v S) (i : Nat) (u : Value) (hr : (psRow S v).setIfInBounds i u = psRow S' v) (hl : S'.l = S.l) (hf : S'.src = S.src ∧ S'.end_ = S.end_ := by exact ⟨rfl, rfl⟩) : PI (w.setCell ⟨a, i, none⟩ u) a ok v S' :=
  ⟨blk_put h.cell i u hr, by rw [hl]; exact Kd.N_far (p := ⟨a, i, none⟩) h.row (fun k hk => fun (e : k = a) => h.off (e ▸ hk)) u, h.off, by rw [hf.1, hf.2]; exact h.fit, fun k hk => by simpa using h.lo k hk⟩
theorem PI.setE (h : PI w a ok v S) (i : Nat) (u : Value) (hr : (psRow S v).setIfInBounds i u = psRow S' v) (hl : S'.l = S.l) (hf : S'.src.size ≤ 4096 ∧ S'.end_ ≤ S'.src.size) : PI (w.setCell ⟨a, i, none⟩ u) a ok v S' :=
  ⟨blk_put h.cell i u hr, by rw [hl]; exact Kd.N_far (p := ⟨a, i, none⟩) h.row (fun k hk => fun (e : k = a) => h.off (e ▸ hk)) u, h.off, hf, fun k hk => by simpa using h.lo k hk⟩
theorem PI.same (h : PI w a ok v S) : Nx w a ok w S := ⟨ok, v, h, Kp.refl _ _, fun _ h => .inl h⟩
theorem PI.nx (h : PI w' a ok v S) (hk : Kp (fun k => k = a ∨ ok k) w w') : Nx w a ok w' S := ⟨ok, v, h, hk, fun _ h => .inl h⟩
/-- One call behind another. -/
theorem Nx.trans (h : Nx w a ok w' S) (g : ∀ ok' v', PI w' a ok' v' S → Nx w' a ok' w'' S') : Nx w a ok w'' S' := by
  obtain ⟨ok1, v1, h1, k1, s1⟩ := h
  obtain ⟨ok2, v2, h2, k2, s2⟩ := g ok1 v1 h1
  refine ⟨ok2, v2, h2, k1.trans k2 (fun k hk => hk.elim (fun e => .inl (.inl e)) (fun h => (s1 k h).imp .inr id)), fun k hk => (s2 k hk).elim (s1 k) (fun h => .inr (Nat.le_trans k1.size h))⟩
end
theorem beqB_iff (a b : ByteArray) : beqB a b = true ↔ a = b := by
  have key : ∀ l m : List UInt8, eqL l m = true ↔ l = m := by
    intro l
    induction l with
    | nil => intro m; cases m <;> simp [eqL]
    | cons x l ih =>
      intro m
      cases m with
      | nil => simp [eqL]
      | cons y m => rw [eqL, Bool.and_eq_true, ih, Nat.beq_eq, UInt8.toNat_inj, List.cons.injEq]
  unfold beqB
  rw [key]
  constructor
  · intro h
    cases a; cases b
    simpa [Array.toList_inj] using h
  · intro h; rw [h]
end Go.Proofs.Ytibepkblgliooaa.Q
namespace Go.Proofs.Ytibepkblgliooaa.Q
open Go.RowKit
open Go.Proofs.YtibepkblgliooaaW.PrintWords
theorem ret_bool {a b : Bool} (h : a = b) : Ending.returned (.bool b) = Ending.returned (.bool a) := by rw [h]
theorem ret_str {a b : ByteArray} (h : a = b) : Ending.returned (.string b) = Ending.returned (.string a) := by rw [h]
theorem ret_nat {a b : Nat} (h : a = b) : Ending.returned (.int .i64 b) = Ending.returned (.int .i64 a) := by rw [h]
section
variable {w : World} {a : Nat} {ok : Nat → Prop} {v : Value} {S : Ps}
set_option maxHeartbeats 400000 in
set_option maxRecDepth 100000 in
theorem out_c (h : PI w a ok v S) : Calls Try.prog 52 #[ptr a] w fun e w' => e = .returned (.tuple #[]) ∧ Nx w a ok w' S.out := by
  have c8 := h.c8
  have f8 := h.f 8
  have H := hid h
  clear h
  unfold ptr
  go_enter Try.func52, Try.ntmps52
  go_wp2_with fail
  exact bodyPost_end (results_none rfl _ _ _) rfl ⟨rfl, (H.out.set 8 _ rfl rfl : PI _ a ok v S.out).nx (Kp.set _ (.inl rfl))⟩
set_option maxHeartbeats 400000 in
set_option maxRecDepth 100000 in
theorem in_c (h : PI w a ok v S) : Calls Try.prog 50 #[ptr a] w fun e w' => e = .returned (.bool (!S.inn.bad)) ∧ Nx w a ok w' S.inn := by
  have c8 := h.c8
  have f8 := h.f 8
  have c9 := h.c9
  have f9 := h.f 9
  have H := hid h
  clear h
  unfold ptr
  by_cases hd : wrap64 (S.deep + 1) > 40
  · have hb : S.inn.bad = true := by simp [Ps.inn, hd]
    have HB := hid hb
    clear hb
    go_enter Try.func50, Try.ntmps50
    go_wp2
    go_ret
    refine ⟨ret_bool (by rw [HB.out]; rfl), ?_⟩
    have h2 : PI (w.setCell ⟨a, 8, none⟩ (.int .i64 (wrap64 (S.deep + 1)))) a ok v { S with deep := wrap64 (S.deep + 1) } := H.out.set 8 _ rfl rfl
    have h3 := (h2.set 9 (.bool true) rfl rfl : PI _ a ok v { S with deep := wrap64 (S.deep + 1), bad := true })
    have e : S.inn = { S with deep := wrap64 (S.deep + 1), bad := true } := by simp [Ps.inn, hd]
    rw [e]
    exact h3.nx ((Kp.set _ (.inl rfl)).trans (Kp.set _ (.inl rfl)) (fun _ h => .inl h))
  · have hb : S.inn.bad = S.bad := by simp [Ps.inn, hd]
    have HB := hid hb
    clear hb
    go_enter Try.func50, Try.ntmps50
    go_wp2
    go_ret
    refine ⟨ret_bool (by rw [HB.out]), ?_⟩
    have h2 : PI (w.setCell ⟨a, 8, none⟩ (.int .i64 (wrap64 (S.deep + 1)))) a ok v { S with deep := wrap64 (S.deep + 1) } := H.out.set 8 _ rfl rfl
    have e : S.inn = { S with deep := wrap64 (S.deep + 1) } := by simp only [Ps.inn, decide_eq_false (Int.not_lt.2 hd), Bool.or_false]
    rw [e]
    exact h2.nx (Kp.set _ (.inl rfl))
theorem toList_beq (a b : ByteArray) : (a.toList == b.toList) = beqB a b := by
  have e : ∀ x : ByteArray, x.toList = x.data.toList := ByteArray.toList_eq
  rw [Bool.eq_iff_iff, beqB_iff, beq_iff_eq, e, e, Array.toList_inj]
  constructor
  · intro h; cases a; cases b; simpa using h
  · intro h; rw [h]
set_option maxHeartbeats 400000 in
set_option maxRecDepth 100000 in
theorem is_c (h : PI w a ok v S) (s : ByteArray) : Calls Try.prog 35 #[ptr a, .string s] w fun e w' => e = .returned (.bool (S.is s)) ∧ w' = w := by
  have c1 := h.c1
  have c2 := h.c2
  clear h
  unfold ptr
  by_cases h5 : S.t.kind = 5
  · have hb : S.is s = (S.t.text.toList == s.toList) := by simp [Ps.is, h5, toList_beq]
    have HB := hid hb
    clear hb
    go_enter Try.func35, Try.ntmps35
    go_wp2
    go_ret
    exact ⟨ret_bool HB.out, rfl⟩
  · by_cases h4 : S.t.kind = 4
    · have hb : S.is s = (S.t.text.toList == s.toList) := by simp [Ps.is, h4, toList_beq]
      have HB := hid hb
      clear hb
      go_enter Try.func35, Try.ntmps35
      go_wp2
      go_ret
      exact ⟨ret_bool HB.out, rfl⟩
    · have hb : S.is s = false := by simp [Ps.is, h4, h5]
      have HB := hid hb
      clear hb
      go_enter Try.func35, Try.ntmps35
      go_wp2
      go_ret
      exact ⟨ret_bool HB.out, rfl⟩
end
end Go.Proofs.Ytibepkblgliooaa.Q
namespace Go.Proofs.Ytibepkblgliooaa.Q
open Go.RowKit
section
variable {P : Program} {md : Region.Mode} {ops : Array Oper} {Q : Exit → Act → World → Prop} {S : World → Prop} {lasts : List Nat}
/-- Whatever order is picked, S holds behind each operation but the last one. -/
def wpAnyU (P : Program) (md : Region.Mode) (ops : Array Oper) (Q : Exit → Act → World → Prop) (S : World → Prop) (lasts : List Nat) : Nat → Array Bool → Act → World → Prop
  | 0, listed, a, w => Region.ready md ops listed = [] ∧ Q .normal a w
  | fuel + 1, listed, a, w => (Region.ready md ops listed = [] → Q .normal a w) ∧
      ∀ j ∈ Region.ready md ops listed, wpOp P ops Q j (fun a' w' => (j ∈ lasts ∨ S w') ∧ wpAnyU P md ops Q S lasts fuel (listed.setIfInBounds j true) a' w') a w
theorem wpAnyU_any : ∀ {fuel : Nat} {listed : Array Bool} {a : Act} {w : World}, wpAnyU P md ops Q S lasts fuel listed a w → wpAny P md ops Q fuel listed a w
  | 0, _, _, _, h => h
  | _ + 1, _, _, _, h => ⟨h.1, fun j hj => wpOp_mono (fun _ _ g => wpAnyU_any g.2) (h.2 j hj)⟩
theorem unlisted_of {i : Nat} {listed : Array Bool} (h0 : listed.getD i true = false) (h1 : listed.getD i false = true) : False := by
  rcases Nat.lt_or_ge i listed.size with h | h
  · simp [h] at h0 h1
    rw [h0] at h1
    cases h1
  · simp [Array.getElem?_eq_none h] at h1
/-- Each operation that came up came up behind what it waits for. -/
def Closed (md : Region.Mode) (ops : Array Oper) (listed : Array Bool) : Prop :=
  ∀ (k : Nat) (o : Oper), ops[k]? = some o → listed.getD k false = true → ∀ e ∈ o.after, Region.binds md e = true → listed.getD e.on false = true
def closedB (md : Region.Mode) (ops : Array Oper) (listed : Array Bool) : Bool :=
  (List.range ops.size).all fun k => !listed.getD k false || (ops[k]?).all fun o => o.after.toList.all fun e => !Region.binds md e || listed.getD e.on false
def waits (md : Region.Mode) (ops : Array Oper) (b a : Nat) : Bool := (ops[b]?).any fun o => o.after.toList.any fun e => Region.binds md e && e.on == a
/-- Each of a path waits for the one ahead of it. -/
def pathB (md : Region.Mode) (ops : Array Oper) : List Nat → Bool
  | a :: b :: r => waits md ops b a && pathB md ops (b :: r)
  | _ => true
theorem closed_of {listed : Array Bool} (h : closedB md ops listed = true) : Closed md ops listed := fun k o ho hl e he hb => by
  have h1 := List.all_eq_true.1 h k (List.mem_range.2 (Array.getElem?_eq_some_iff.1 ho).1)
  rw [hl, ho] at h1
  have h2 : (o.after.toList.all fun e => !Region.binds md e || listed.getD e.on false) = true := by simpa using h1
  have h3 := List.all_eq_true.1 h2 e (Array.mem_toList_iff.2 he)
  rw [hb] at h3
  simpa using h3
theorem Closed.set {listed : Array Bool} (h : Closed md ops listed) {j : Nat} (hj : j ∈ Region.ready md ops listed) : Closed md ops (listed.setIfInBounds j true) := fun k o ho hl e he hb => by
  obtain ⟨_, oj, hoj, hall⟩ := mem_ready.1 hj
  by_cases hk : j = k
  · subst hk
    rw [hoj] at ho
    obtain rfl := Option.some.inj ho
    exact getD_set_true (hall e he hb)
  · rw [getD_set_ne false hk] at hl
    exact getD_set_true (h k o ho hl e he hb)
/-- Where the last of a path has come up, so has the first. -/
theorem path_listed {listed : Array Bool} (h : Closed md ops listed) : ∀ {p : List Nat} {i : Nat}, pathB md ops (i :: p) = true → (∀ last, (i :: p).getLast? = some last → listed.getD last false = true) → listed.getD i false = true
  | [], _, _, hl => hl _ rfl
  | b :: r, i, hp, hl => by
    simp only [pathB, Bool.and_eq_true] at hp
    have hb := path_listed h (p := r) (i := b) hp.2 (fun last e => hl last (by rw [List.getLast?_cons_cons]; exact e))
    cases ho : ops[b]? with
    | none => have := hp.1; rw [waits, ho] at this; simp at this
    | some o =>
      have h1 := hp.1
      rw [waits, ho] at h1
      simp only [Option.any_some, List.any_eq_true, Bool.and_eq_true, beq_iff_eq] at h1
      obtain ⟨e, he, hbd, rfl⟩ := h1
      exact h b o ho hb e (Array.mem_toList_iff.1 he) hbd
/-- What yields in every world of S, and what the last operation waits for, be it by others, may be taken first. -/
theorem wpAnyU_take {i : Nat} {oi : Oper} {v : Value} (hi : ops[i]? = some oi) (hs : Region.noSelect ops = true) (hQ : ∀ c a w, Q (.panic c) (a.put oi.dst v) w → Q (.panic c) a w)
    (hp : ∀ last ∈ lasts, ∃ p, pathB md ops (i :: p) = true ∧ p.getLast? = some last) :
    ∀ {fuel : Nat} {listed : Array Bool} {a : Act} {w : World}, closedB md ops listed = true → Region.free md ops listed i = true → (Region.ready md ops listed).contains i = true → YieldsIf P ops S oi v a → S w →
      wpAnyU P md ops Q S lasts fuel (listed.setIfInBounds i true) (a.put oi.dst v) w → wpAnyU P md ops Q S lasts (fuel + 1) listed a w := by
  have main : ∀ (fuel : Nat) (listed : Array Bool) (a : Act) (w : World), Closed md ops listed →
      (∀ j oj, ops[j]? = some oj → j ≠ i → listed.getD j true = false → (∀ e ∈ oj.after, Region.binds md e = true → e.on ≠ i) → oi.apart ops oj = true) →
      i ∈ Region.ready md ops listed → YieldsIf P ops S oi v a → S w → wpAnyU P md ops Q S lasts fuel (listed.setIfInBounds i true) (a.put oi.dst v) w → wpAnyU P md ops Q S lasts (fuel + 1) listed a w := by
    intro fuel
    induction fuel with
    | zero =>
      intro listed a w _ _ hr hy hS H
      refine ⟨fun h => absurd (h ▸ hr) (by simp), fun j hj => ?_⟩
      by_cases e : j = i
      · subst e
        exact hy.wpOp hi hS ⟨.inr hS, H⟩
      · exact absurd (H.1 ▸ ready_mono hj e) (by simp)
    | succ fuel ih =>
      intro listed a w hcl hfr hr hy hS H
      refine ⟨fun h => absurd (h ▸ hr) (by simp), fun j hj => ?_⟩
      by_cases e : j = i
      · subst e
        exact hy.wpOp hi hS ⟨.inr hS, H⟩
      · obtain ⟨hun, oj, hoj, hall⟩ := mem_ready.1 hj
        have hi0 := (mem_ready.1 hr).1
        have hnot : ∀ e ∈ oj.after, Region.binds md e = true → e.on ≠ i := fun x hx hb he => unlisted_of hi0 (he ▸ hall x hx hb)
        have hjl : j ∉ lasts := fun he => by
          obtain ⟨p, hp, hpl⟩ := hp j he
          have hc := hcl.set hj
          have h1 := path_listed hc hp (fun l hl => by
            have : l = j := by
              cases p with
              | nil => simp at hpl
              | cons b r => rw [List.getLast?_cons_cons, hpl] at hl; exact (Option.some.inj hl).symm
            subst this
            have hlt : l < listed.size := by
              rcases Nat.lt_or_ge l listed.size with h | h
              · exact h
              · simp [Array.getElem?_eq_none h] at hun
            simp [hlt])
          rw [getD_set_ne false e] at h1
          exact unlisted_of hi0 h1
        have step := wpOp_putIf hoj (hfr j oj hoj e hun hnot) (fun cs b => Region.noSelect_spec hs i oi cs b hi) (fun cs b => Region.noSelect_spec hs j oj cs b hoj) hQ hy (H.2 j (ready_mono hj e))
        refine wpOp_mono (fun a' w' g => ?_) step
        have hS' : S w' := g.2.1.resolve_left hjl
        refine ⟨.inr hS', ih _ a' w' (hcl.set hj) (fun k ok hk hki hkun hkno => ?_) (ready_mono hr (Ne.symm e)) g.1 hS' ?_⟩
        · by_cases hjk : j = k
          · subst hjk
            exact hfr j ok hk hki hun hkno
          · exact hfr k ok hk hki (by rwa [getD_set_ne true hjk] at hkun) hkno
        · rw [Array.setIfInBounds_comm _ _ e]
          exact g.2.2
  intro fuel listed a w hcl hf hr hy hS H
  exact main fuel listed a w (closed_of hcl) (Region.free_spec hi hf) (by simpa using hr) hy hS H
/-- Each of the last ones waits for i, by one of these paths. -/
def leadsB (md : Region.Mode) (ops : Array Oper) (lasts : List Nat) (i : Nat) (ps : List (List Nat)) : Bool := lasts.all fun l => ps.any fun p => pathB md ops (i :: p) && p.getLast? == some l
theorem leads_of {i : Nat} (ps : List (List Nat)) (h : leadsB md ops lasts i ps = true) : ∀ last ∈ lasts, ∃ p, pathB md ops (i :: p) = true ∧ p.getLast? = some last := fun l hl => by
  have h1 := List.all_eq_true.1 h l hl
  obtain ⟨p, _, hp⟩ := List.any_eq_true.1 h1
  rw [Bool.and_eq_true] at hp
  exact ⟨p, hp.1, by simpa using hp.2⟩
theorem wpAnyU_all {rs : List Nat} {fuel : Nat} {listed : Array Bool} {a : Act} {w : World} (hr : Region.ready md ops listed = rs) (hne : rs ≠ [])
    (h : ∀ j ∈ rs, wpOp P ops Q j (fun a' w' => (j ∈ lasts ∨ S w') ∧ wpAnyU P md ops Q S lasts fuel (listed.setIfInBounds j true) a' w') a w) : wpAnyU P md ops Q S lasts (fuel + 1) listed a w :=
  ⟨fun h0 => absurd (hr ▸ h0) hne, hr ▸ h⟩
theorem wpAnyU_done {listed : Array Bool} {a : Act} {w : World} (hr : Region.ready md ops listed = []) (h : Q .normal a w) : ∀ fuel, wpAnyU P md ops Q S lasts fuel listed a w
  | 0 => ⟨hr, h⟩
  | _ + 1 => ⟨fun _ => h, by rw [hr]; simp⟩
/-- The region's begin. -/
theorem wp_region_until (lasts : List Nat) {id : Nat} {a : Act} {w : World} (hm : P.follows .mixedOrders = true) (hS : S w.drew)
    (h : S w.drew → wpAnyU P .any ops Q S lasts ops.size (Array.replicate ops.size false) a w.drew) : (Code.region id ops true).wp P Q a w := wp_region_any hm (wpAnyU_any (h hS))
/-- An operation that comes up; its way on stays shut till it is done. -/
theorem wpOp_shut {i : Nat} {o : Oper} {K : Act → World → Prop} {a : Act} {w : World} (ho : ops[i]? = some o)
    (h : ∀ K' : Act → World → Prop, Box (∀ a w, K a w → K' a w) → if Region.wanted o (yielded ops a.tmps) = true then Oper.wp P o a w K' Q else K' (a.put o.dst undef) w) : wpOp P ops Q i K a w :=
  wpOp_step ho (fun K' hK => h K' ⟨hK⟩)
end
/-- A call of a Go function, as one step of a region that draws. -/
theorem step_call {P : Program} {ops : Array Oper} {o : Oper} {a : Act} {w : World} {K : Act → World → Prop} {Q : Exit → Act → World → Prop} {E : Prop} (hg : o.guard = none) {f : FuncId} {fn : Func} {xs : Array Operand} {ts : Array TypeId}
    (hop : o.op = .call { callee := .value (.func f), args := xs, argTypes := ts }) (hf : P.funcs[f]? = some fn) (hname : (fn.name == "runtime.NumGoroutine") = false) (hb : fn.body.isSome = true) (args : Array Value) (hargs : xs.map a.eval = args)
    (h : Calls P f args w fun e w' => ∃ v, e = .returned v ∧ K (a.put o.dst v) w') : if Region.wanted o (yielded ops a.tmps) = true then Oper.wp P o a w K Q else E := by
  have hw : Region.wanted o (yielded ops a.tmps) = true := by simp [Region.wanted, hg]
  rw [if_pos hw]
  have he : (callFunc f args).run P w = .ok (.enter f args) w := by
    have h1 : fn.name ≠ "runtime.NumGoroutine" := by simpa using hname
    obtain ⟨c, hc⟩ := Option.isSome_iff_exists.1 hb
    simp [callFunc, hf, h1, hc]
  have hrun : (execOp a.eval o).run P w = .ok (.enter f args) w := by
    unfold execOp
    simp [hop, resolve, Deferred.ofValue, invoke, Act.eval, hargs, he]
  unfold Oper.wp
  rw [hrun, Oper.upon_enter]
  refine h.mono fun e w'' hh => ?_
  obtain ⟨v, rfl, hk⟩ := hh
  exact hk
/-- A world that comes of w, of whose blocks none has turned. -/
def Over (w : World) : Type := { w' : World // Below w.heap.size w w' }
def ov (w : World) (x : Over w) : World := x.val
end Go.Proofs.Ytibepkblgliooaa.Q
