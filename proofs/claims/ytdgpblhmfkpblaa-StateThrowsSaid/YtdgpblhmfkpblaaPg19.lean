/- The contracts of package pages, over books as lists of cells. -/
import Derived.Test.YtdgpblhmfkpblaaPg18
namespace Go.Proofs.Ytdgpblhmfkpblaa.Pg
open Go.RowKit

section
variable {D : FD} {bs : List Nat} {S : List SB}

/-- One book more. -/
theorem Books.marked (h : Books D bs S) {i b b' : Nat} {s : SB} {K : BkD} (hb : bs[i]? = some b) (hs : S[i]? = some s) (hK : D.bk b = some K) (hg : s.gone = false) (hn : b' ∉ bs) {v : Value} : Books (marked D K b' v) (bs ++ [b']) (S ++ [s]) := by
  obtain ⟨K0, hK0, e1, e2, e3⟩ := h.bk i b s hb hs
  obtain rfl : K0 = K := Option.some.inj (hK0.symm.trans hK)
  have hms := List.mem_of_getElem? hs
  have hpg : ∀ p P, D.pg p = some P → ∃ P', (Pg.marked D K0 b' v).pg p = some P' ∧ P'.cells = P.cells := fun p P hP => ⟨_, bump_at _ hP, rfl⟩
  refine ⟨by simp [h.len], ?_, ?_, ?_, ?_, ?_, ?_⟩
  · rw [List.nodup_append]
    exact ⟨h.nd, by simp, fun a ha x hx e => by rw [List.mem_singleton.1 hx] at e; exact hn (e ▸ ha)⟩
  · intro j x y hx hy
    rw [List.getElem?_append] at hx hy
    split at hx
    · rename_i hj
      rw [if_pos (by rw [← h.len]; exact hj)] at hy
      have hne : x ≠ b' := fun e => hn (e ▸ List.mem_of_getElem? hx)
      obtain ⟨K1, hK1, r⟩ := h.bk j x y hx hy
      exact ⟨K1, (upd_ne _ _ hne).trans hK1, r⟩
    · rename_i hj
      rw [if_neg (by rw [← h.len]; exact hj)] at hy
      have hj0 := (List.getElem?_eq_some_iff.1 hx).1
      simp at hj0
      have hz : j - bs.length = 0 := by omega
      have hz' : j - S.length = 0 := by rw [← h.len]; exact hz
      rw [hz] at hx; rw [hz'] at hy
      simp at hx hy
      subst hx hy
      exact ⟨_, upd_same _ _ _, e1, e2, hg.symm⟩
  · intro x hx
    rcases List.mem_append.1 hx with hx | hx
    · exact h.wf x hx
    · rw [List.mem_singleton.1 hx]; exact h.wf s hms
  · intro x hx k p hp
    have hx' : x ∈ S := by
      rcases List.mem_append.1 hx with hx | hx
      · exact hx
      · rw [List.mem_singleton.1 hx]; exact hms
    obtain ⟨P, hP, hc⟩ := h.pg x hx' k p hp
    obtain ⟨P', hP', hc'⟩ := hpg p P hP
    exact ⟨P', hP', hc'.trans hc⟩
  · intro p P hP
    obtain ⟨P0, hP0, e⟩ : ∃ P0, D.pg p = some P0 ∧ { P0 with sh := P0.sh + (K0.pgs.count p : Nat) } = P := by
      have : bump D.pg K0.pgs p = some P := hP
      unfold bump at this
      cases hq : D.pg p with
      | none => rw [hq] at this; cases this
      | some P0 => rw [hq] at this; exact ⟨P0, rfl, Option.some.inj this⟩
    have h1 := h.sh p P0 hP0
    subst e
    simp only []
    rw [allPgs_append, List.count_append, e1]
    have : (allPgs [s]).count p = s.pgs.count p := by simp [allPgs]
    omega
  · show D.live = _
    rw [h.live, distinct_congr (l := allPgs (S ++ [s])) (l' := allPgs S)]
    intro x
    rw [allPgs_append, List.mem_append]
    constructor
    · rintro (hx | hx)
      · exact hx
      · simp [allPgs] at hx; exact mem_allPgs.2 ⟨s, hms, hx⟩
    · exact .inl

end

section
variable {B : Bd} {w : World} {D : FD} {bs : List Nat} {S : List SB} {i b : Nat} {s : SB}

theorem Len (h : Fam B w D) (hS : Books D bs S) (hb : bs[i]? = some b) (hs : S[i]? = some s) : Calls Try.prog 112 #[ptr b] w fun e w' => e = .returned (.int .i64 (s.cells.length : Nat)) ∧ w' = w := by
  obtain ⟨K, hK, e1, e2, e3⟩ := hS.bk i b s hb hs
  rw [← e2]
  exact len_c h hK
theorem Get_no (h : Fam B w D) (hS : Books D bs S) (hb : bs[i]? = some b) (hs : S[i]? = some s) (k : Int) (hk : k < 0 ∨ ((s.cells.length : Nat) : Int) ≤ k) :
    Calls Try.prog 73 #[ptr b, .int .i64 k] w fun e w' => e = .returned (.tuple #[aggC noCell (.slice none 0 0) (.slice none 0 0), .int .i64 2]) ∧ Below w.heap.size w w' := by
  obtain ⟨K, hK, e1, e2, e3⟩ := hS.bk i b s hb hs
  exact get_no h hK k (by rw [e2]; exact hk)
theorem row_at {l : List CD} {k : Nat} {c : CD} (h : l[k]? = some c) : ((l.drop (8 * (k / 8))).take 8)[k % 8]? = some c := by
  rw [List.getElem?_take, if_pos (by omega), List.getElem?_drop, show 8 * (k / 8) + k % 8 = k by omega]
  exact h
theorem GetO (h : Fam B w D) (hB : B ≤ w.heap.size) (hS : Books D bs S) (hb : bs[i]? = some b) (hs : S[i]? = some s) (k : Nat) {c : CD} (hk : s.cells[k]? = some c) :
    Calls Try.prog 73 #[ptr b, .int .i64 k] w fun e w' => ∃ ks vl, e = .returned (.tuple #[aggC c ks vl, .int .i64 0]) ∧ Below w.heap.size w w' ∧ Reads B w' c ks vl ∧ w'.ownsRow w.heap.size 33 3 vl c.vals.length (c.vals.map VD.row).flatten := by
  obtain ⟨K, hK, e1, e2, e3⟩ := hS.bk i b s hb hs
  have hw := hS.wf s (List.mem_of_getElem? hs)
  have hlt := (List.getElem?_eq_some_iff.1 hk).1
  have hl : k / 8 < s.pgs.length := by have := hw.len; omega
  have hp : s.pgs[k / 8]? = some s.pgs[k / 8] := List.getElem?_eq_getElem hl
  obtain ⟨P, hP, hc, _⟩ := hS.page hs hp
  exact get_yesO h hB hK k (by omega) (by omega) (by rw [Int.toNat_natCast, e1]; exact hp) hP (by rw [Int.toNat_natCast, hc]; exact row_at hk) (hw.small c (List.mem_of_getElem? hk))
theorem Get (h : Fam B w D) (hB : B ≤ w.heap.size) (hS : Books D bs S) (hb : bs[i]? = some b) (hs : S[i]? = some s) (k : Nat) {c : CD} (hk : s.cells[k]? = some c) :
    Calls Try.prog 73 #[ptr b, .int .i64 k] w fun e w' => ∃ ks vl, e = .returned (.tuple #[aggC c ks vl, .int .i64 0]) ∧ Below w.heap.size w w' ∧ Reads B w' c ks vl := by
  refine (GetO h hB hS hb hs k hk).mono ?_
  rintro e w' ⟨ks', vl', rfl, h1, h2, _⟩
  exact ⟨ks', vl', rfl, h1, h2⟩
theorem Set_no (h : Fam B w D) (hS : Books D bs S) (hb : bs[i]? = some b) (hs : S[i]? = some s) (k : Int) (hk : k < 0 ∨ ((s.cells.length : Nat) : Int) ≤ k) (c : CD) (ks vl : Value) :
    Calls Try.prog 106 #[ptr b, .int .i64 k, aggC c ks vl] w fun e w' => e = .returned (.int .i64 2) ∧ Below w.heap.size w w' := by
  obtain ⟨K, hK, e1, e2, e3⟩ := hS.bk i b s hb hs
  exact set_no h hK k (by rw [e2]; exact hk) c ks vl
theorem Set (h : Fam B w D) (hB : B ≤ w.heap.size) (hS : Books D bs S) (hn : S.length ≤ 1000) (hb : bs[i]? = some b) (hs : S[i]? = some s) (k : Nat) (hk : k < s.cells.length) {c : CD} {ks vl : Value} (hr : Reads B w c ks vl) (hc : c.small) :
    Calls Try.prog 106 #[ptr b, .int .i64 k, aggC c ks vl] w fun e w' => e = .returned (.int .i64 0) ∧ ∃ D' ps, OwnRel S s (k / 8) ps ∧ Fam B w' D' ∧ Goes B w D w' D' ∧ Books D' bs (S.set i { s with cells := s.cells.set k c, pgs := ps }) := by
  obtain ⟨K, hK, e1, e2, e3⟩ := hS.bk i b s hb hs
  have hw := hS.wf s (List.mem_of_getElem? hs)
  have hl : k / 8 < s.pgs.length := by have := hw.len; omega
  have hp : s.pgs[k / 8]? = some s.pgs[k / 8] := List.getElem?_eq_getElem hl
  have hpK : K.pgs[k / 8]? = some s.pgs[k / 8] := by rw [e1]; exact hp
  obtain ⟨P, hP, hcc, hsh, _⟩ := hS.page hs hp
  have hsm := hS.small hn
  have hlive := hS.live
  have hd := distinct_le (allPgs S)
  have hct := List.count_le_length (a := s.pgs[k / 8]) (l := allPgs S)
  have hpl : P.cells.length = min 8 (s.cells.length - 8 * (k / 8)) := by rw [hcc, List.length_take, List.length_drop]
  have hn4 := hw.n
  refine (set_yes h hB hK k (by omega) (by omega) (by omega) (by rw [Int.toNat_natCast]; exact hpK) hP (by rw [Int.toNat_natCast, hpl]; omega) (by omega) (by omega) (by omega) (by omega) hr hc).mono ?_
  rintro e w' ⟨D1, p', P', rfl, hm, hF, hG⟩
  rw [Int.toNat_natCast] at hm hF hG
  obtain ⟨ps, ho, hB'⟩ := hS.set hb hs hK hk hpK hP hm hc
  exact ⟨rfl, _, ps, ho, hF, hG, hB'⟩
theorem Add_gone (h : Fam B w D) (hS : Books D bs S) (hb : bs[i]? = some b) (hs : S[i]? = some s) (hg : s.gone = true) (c : CD) (ks vl : Value) :
    Calls Try.prog 85 #[ptr b, aggC c ks vl] w fun e w' => e = .returned (.tuple #[.int .i64 0, .int .i64 2]) ∧ Below w.heap.size w w' := by
  obtain ⟨K, hK, e1, e2, e3⟩ := hS.bk i b s hb hs
  exact add_gone h hK (e3.trans hg) c ks vl
theorem Add_full (h : Fam B w D) (hS : Books D bs S) (hb : bs[i]? = some b) (hs : S[i]? = some s) (hg : s.gone = false) (hf : 4096 ≤ s.cells.length) (c : CD) (ks vl : Value) :
    Calls Try.prog 85 #[ptr b, aggC c ks vl] w fun e w' => e = .returned (.tuple #[.int .i64 0, .int .i64 6]) ∧ Below w.heap.size w w' := by
  obtain ⟨K, hK, e1, e2, e3⟩ := hS.bk i b s hb hs
  exact add_full h hK (e3.trans hg) (by omega) c ks vl
theorem Add (h : Fam B w D) (hB : B ≤ w.heap.size) (hS : Books D bs S) (hn : S.length ≤ 1000) (hb : bs[i]? = some b) (hs : S[i]? = some s) (hg : s.gone = false) (hf : s.cells.length < 4096) {c : CD} {ks vl : Value} (hr : Reads B w c ks vl) (hc : c.small) :
    Calls Try.prog 85 #[ptr b, aggC c ks vl] w fun e w' => e = .returned (.tuple #[.int .i64 (s.cells.length : Nat), .int .i64 0]) ∧
      ∃ D' ps, OwnRel S s (s.cells.length / 8) ps ∧ Fam B w' D' ∧ Goes B w D w' D' ∧ Books D' bs (S.set i { s with cells := s.cells ++ [c], pgs := ps }) := by
  obtain ⟨K, hK, e1, e2, e3⟩ := hS.bk i b s hb hs
  have hw := hS.wf s (List.mem_of_getElem? hs)
  have hsm := hS.small hn
  have hlive := hS.live
  have hd := distinct_le (allPgs S)
  have hlen := hw.len
  rw [← e2]
  by_cases h8 : s.cells.length % 8 = 0
  · refine (add_new h hB hK (e3.trans hg) (by omega) (by omega) (by rw [e1]; omega) (by omega) (by omega) hr hc).mono ?_
    rintro e w' ⟨rfl, q, v, v', _, hq, hF, hG⟩
    obtain ⟨ho, hB'⟩ := hS.addNew hb hs hK hg hf h8 hq (v := v) (v' := v') hc
    exact ⟨rfl, _, _, by rw [e2]; exact ho, hF, hG, hB'⟩
  · have hl : s.cells.length / 8 < s.pgs.length := by omega
    have hp : s.pgs[s.cells.length / 8]? = some s.pgs[s.cells.length / 8] := List.getElem?_eq_getElem hl
    have hpK : K.pgs[s.cells.length / 8]? = some s.pgs[s.cells.length / 8] := by rw [e1]; exact hp
    obtain ⟨P, hP, hcc, hsh, _⟩ := hS.page hs hp
    have hct := List.count_le_length (a := s.pgs[s.cells.length / 8]) (l := allPgs S)
    have hpl : P.cells.length = min 8 (s.cells.length - 8 * (s.cells.length / 8)) := by rw [hcc, List.length_take, List.length_drop]
    refine (add_old h hB hK (e3.trans hg) (by omega) (by omega) (by rw [e2]; exact hpK) hP (by omega) (by omega) (by omega) (by omega) hr hc).mono ?_
    rintro e w' ⟨rfl, D1, p', P', v, hm, hF, hG⟩
    rw [e2] at hm
    obtain ⟨ps, ho, hB'⟩ := hS.addOld hb hs hK hg hf hpK hP hm (v := v) hc
    rw [← e2] at hB'
    exact ⟨rfl, _, ps, by rw [e2]; exact ho, hF, hG, hB'⟩
theorem Mark_gone (h : Fam B w D) (hS : Books D bs S) (hb : bs[i]? = some b) (hs : S[i]? = some s) (hg : s.gone = true) : Calls Try.prog 105 #[ptr b] w fun e w' => e = .returned (.pointer none) ∧ w' = w := by
  obtain ⟨K, hK, e1, e2, e3⟩ := hS.bk i b s hb hs
  exact mark_gone h hK (e3.trans hg)
theorem Mark (h : Fam B w D) (hB : B ≤ w.heap.size) (hS : Books D bs S) (hn : S.length ≤ 1000) (hb : bs[i]? = some b) (hs : S[i]? = some s) (hg : s.gone = false) :
    Calls Try.prog 105 #[ptr b] w fun e w' => ∃ b', e = .returned (.pointer (some ⟨b', 0, none⟩)) ∧ ∃ D', w.heap.size ≤ b' ∧ Fam B w' D' ∧ Goes B w D w' D' ∧ Books D' (bs ++ [b']) (S ++ [s]) := by
  obtain ⟨K, hK, e1, e2, e3⟩ := hS.bk i b s hb hs
  have hw := hS.wf s (List.mem_of_getElem? hs)
  have hsm := hS.small hn
  refine (mark_c h hB hK (e3.trans hg) (by rw [e1]; have := hw.le; omega) (fun p hp => ?_)).mono ?_
  · rw [e1] at hp
    obtain ⟨k, hk⟩ := List.getElem?_of_mem hp
    obtain ⟨P, hP, _, hsh, _⟩ := hS.page hs hk
    have hct := List.count_le_length (a := p) (l := allPgs S)
    exact ⟨P, hP, by omega, by omega⟩
  · rintro e w' ⟨b', v, rfl, hlt, hF, hG⟩
    refine ⟨b', rfl, _, hlt, hF, hG, hS.marked hb hs hK hg (fun hm => ?_)⟩
    obtain ⟨j, hj⟩ := List.getElem?_of_mem hm
    have hj' : j < S.length := by rw [← hS.len]; exact (List.getElem?_eq_some_iff.1 hj).1
    obtain ⟨X, hX, _⟩ := hS.bk j b' S[j] hj (List.getElem?_eq_getElem hj')
    have := (h.tBk hX).lt
    omega
theorem New {w : World} (hB : B ≤ w.heap.size) (hX : ∀ k, B.X k → k < w.heap.size) : Calls Try.prog 83 #[] w fun e w' => ∃ b, e = .returned (.pointer (some ⟨b, 0, none⟩)) ∧ ∃ D, Fam B w' D ∧ Below w.heap.size w w' ∧ (∀ k, Foot D k → w.heap.size ≤ k) ∧ w.heap.size ≤ b ∧ Books D [b] [{ cells := [], pgs := [], gone := false }] := by
  refine (new_c hB hX).mono ?_
  rintro e w' ⟨f, b, rfl, hF, hb, hf, hbb⟩
  refine ⟨b, rfl, _, hF, hb, fun k hk => by rcases fresh_foot hk with rfl | rfl <;> assumption, hbb, rfl, by simp, ?_, ?_, ?_, ?_, rfl⟩
  · intro j x y hx hy
    have hj := (List.getElem?_eq_some_iff.1 hx).1
    simp at hj
    subst hj
    simp at hx hy
    subst hx hy
    exact ⟨({ sl := .slice none 0 0, pgs := [], n := 0, gone := false } : BkD), upd_same (fun _ => none) b _, rfl, rfl, rfl⟩
  · intro x hx
    rw [List.mem_singleton.1 hx]
    exact ⟨rfl, by simp, by simp, fun _ => rfl, fun c hc => by simp at hc⟩
  · intro x hx k p hp
    rw [List.mem_singleton.1 hx] at hp
    simp at hp
  · intro p P hP
    simp [fresh] at hP
end
end Go.Proofs.Ytdgpblhmfkpblaa.Pg
