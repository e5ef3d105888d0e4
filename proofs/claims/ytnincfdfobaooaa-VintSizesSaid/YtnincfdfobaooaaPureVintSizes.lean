/- A number has as many bytes as seven bits each need, its sign among them: the plain law. No condition. -/
import Derived.Test.YtnincfdfobaooaaVM
namespace Go.Proofs.Ytnincfdfobaooaa.Pure
open Go.RowKit Go.Proofs.Ytnincfdfobaooaa.PVint Go.Proofs.YtnincfdfobaooaaW.PrintWords Go.Proofs.YtnincfdfobaooaaW.PrintLast Go.Proofs.YtnincfdfobaooaaW.PrintMore
open Go.Proofs.Ytnincfdfobaooaa.VM Go.Proofs.Ytnincfdfobaooaa.VB

theorem sizes_l0 (p q : ByteArray) : ∀ (f k : Nat) (sz u v m : Int), 0 ≤ u → u < 128 ^ (f + 1) → 0 ≤ v → v < 128 ^ (f + 1) → u / 2 = m → v / 2 = m → f + 30 ≤ k → 0 ≤ sz → sz + f ≤ 100 → m < 9223372036854775808 →
    (p.size : Int) = sz - 1 + (enc f u).length → (q.size : Int) = sz - 1 + (enc f v).length →
    boomeranglaw1_VintSizes.l0 k p q sz m = some true
  | _, 0, _, _, _, _, _, _, _, _, _, _, h, _, _, _, _, _ => by omega
  | 0, k + 1, sz, u, v, m, hu0, hu, hv0, hv, h1, h2, hk, hs0, hs, hm, hp, hq => by
    simp only [boomeranglaw1_VintSizes.l0]
    simp only [enc, List.length_singleton] at hp hq
    rw [if_neg (by omega), if_pos (by omega), if_pos (by omega), awake k (by omega)]; rfl
  | f + 1, k + 1, sz, u, v, m, hu0, hu, hv0, hv, h1, h2, hk, hs0, hs, hm, hp, hq => by
    simp only [boomeranglaw1_VintSizes.l0]
    simp only [enc] at hp hq
    by_cases h : u ≥ 128
    · rw [if_pos h, List.length_cons] at hp
      rw [if_pos (by omega), List.length_cons] at hq
      rw [if_pos (by omega), show wrap64 (sz + 1) = sz + 1 by unfold wrap64; omega]
      rw [Int.tdiv_eq_ediv_of_nonneg (by omega), show wrap64 (m / 128) = m / 128 by unfold wrap64; omega]
      exact sizes_l0 p q f k (sz + 1) (u / 128) (v / 128) (m / 128) (by omega) (by rw [Int.pow_succ] at hu; omega) (by omega) (by rw [Int.pow_succ] at hv; omega) (by omega) (by omega) (by omega) (by omega) (by omega) (by omega) (by omega) (by omega)
    · rw [if_neg h] at hp
      rw [if_neg (by omega)] at hq
      simp only [List.length_singleton] at hp hq
      rw [if_neg (by omega), if_pos (by omega), if_pos (by omega), awake k (by omega)]; rfl
theorem sizes_j0 (n : Int) (h0 : 0 ≤ n) (h1 : n < 4611686018427387904) : boomeranglaw1_VintSizes.j0 100 n = some true := by
  show boomeranglaw1_VintSizes.j0 (99 + 1) n = some true
  simp only [boomeranglaw1_VintSizes.j0]
  rw [show wrap64 (wrap64 (-n) - 1) = -n - 1 by unfold wrap64; omega]
  rw [put 99 n ⟨by omega, by omega⟩ (by omega), put 99 (-n - 1) ⟨by omega, by omega⟩ (by omega), Option.bind_some, Option.bind_some]
  have e1 : fold n = 2 * n := by unfold fold; rw [if_neg (by omega)]
  have e2 : fold (-n - 1) = 2 * n + 1 := by unfold fold; rw [if_pos (by omega)]; omega
  refine sizes_l0 _ _ 9 99 1 (2 * n) (2 * n + 1) n (by omega) (by omega) (by omega) (by omega) (by omega) (by omega) (by omega) (by omega) (by omega) (by omega) ?_ ?_
  · unfold P; rw [strOfNums_size, e1]; omega
  · unfold P; rw [strOfNums_size, e2]; omega

theorem shl_pow (j : Nat) (hj : j ≤ 61) : 1 ≤ shl .i64 1 (j : Int) ∧ shl .i64 1 (j : Int) < 4611686018427387904 := by
  unfold shl
  have e : min (j : Int).toNat IntKind.i64.bits = j := by simp [IntKind.bits]; omega
  have h1 := pow_le j 61 hj
  have h2 := pow_pos' j
  have h3 : (2 : Int) ^ 61 = 2305843009213693952 := by decide
  rw [e, Int.one_mul, IntKind.wrap_i64]
  omega

theorem VintSizes : boomeranglaw1_VintSizes.Pure := by
  intro a b hw
  refine ⟨100, ?_⟩
  have ha : 0 ≤ a ∧ a < 256 := by
    simp [Lit.wf, IntKind.min, IntKind.max, IntKind.signed, IntKind.bits] at hw
    omega
  unfold boomeranglaw1_VintSizes.f
  rw [show wrap64 a = a by unfold wrap64; omega, Int.tmod_eq_emod_of_nonneg ha.1, if_pos (by omega)]
  obtain ⟨j, hj⟩ : ∃ j : Nat, a % 62 = j := ⟨(a % 62).toNat, by omega⟩
  rw [hj]
  have hs := shl_pow j (by omega)
  cases b
  · rw [if_neg (by decide)]
    exact sizes_j0 _ (by omega) (by omega)
  · rw [if_pos rfl, show wrap64 (shl .i64 1 (j : Int) - 1) = shl .i64 1 (j : Int) - 1 by unfold wrap64; omega]
    exact sizes_j0 _ (by omega) (by omega)
end Go.Proofs.Ytnincfdfobaooaa.Pure
