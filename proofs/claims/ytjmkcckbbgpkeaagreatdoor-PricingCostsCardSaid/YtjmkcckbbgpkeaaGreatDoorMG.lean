/- The guess of a digit of a long division (plain). -/
/- Shifts of digits, and the subtraction of a multiple (plain). -/
/- The steps of a long division, on lists of digits (plain). -/
/- nat.shiftLeft, nat.shiftRight. -/
/- nat.reduce: a multiple of the divisor is taken from a window of the dividend. -/
/- nat.divideLong: the long division. -/
/- nat.DivMod, the great numbers; so DivMod, GCD and reduced are right at all numbers. -/
import Derived.Test.YtjmkcckbbgpkeaaGreatDoorMA
import Derived.Test.YtjmkcckbbgpkeaaGreatDoorShelf
import Derived.Test.YtjmkcckbbgpkeaaGreatDoorME
import Derived.Deep.QuietTactic
import Derived.BigQuiet
import Derived.Deep.LoopGhost
import Derived.Deep.RegionHeld3
import Derived.Test.YtjmkcckbbgpkeaaGreatDoorMB
set_option linter.unusedVariables false
set_option linter.unusedSimpArgs false

namespace Go.Proofs.YtjmkcckbbgpkeaaGreatDoor.Dig
/-- The guess out of three digits of the dividend and two of the divisor. -/
def guess (B u0 u1 u2 v1 v2 : Nat) : Nat := min (B - 1) (((u0 * B + u1) * B + u2) / (v1 * B + v2))
theorem guess_done {B u0 u1 u2 v1 v2 g r : Nat} (hv : 0 < v1 * B + v2) (h : g * v1 + r = u0 * B + u1) (h1 : g < B) (h2 : g * v2 ≤ r * B + u2) (hG : guess B u0 u1 u2 v1 v2 ≤ g) : g = guess B u0 u1 u2 v1 v2 := by
  have e : g * (v1 * B + v2) ≤ (u0 * B + u1) * B + u2 := by
    rw [← h, Nat.mul_add, Nat.add_mul, ← Nat.mul_assoc]
    omega
  have e2 : g ≤ ((u0 * B + u1) * B + u2) / (v1 * B + v2) := (Nat.le_div_iff_mul_le hv).2 e
  unfold guess at *
  omega
theorem guess_more {B u0 u1 u2 v1 v2 g r : Nat} (hB : 0 < B) (hv : 0 < v1 * B + v2) (h : g * v1 + r = u0 * B + u1) (hc : B ≤ g ∨ r * B + u2 < g * v2) : guess B u0 u1 u2 v1 v2 < g := by
  unfold guess
  rcases hc with hc | hc
  · omega
  · have e : (u0 * B + u1) * B + u2 < g * (v1 * B + v2) := by
      rw [← h, Nat.mul_add, Nat.add_mul, ← Nat.mul_assoc]
      omega
    have := (Nat.div_lt_iff_lt_mul hv).2 e
    omega
theorem guess_break {B u0 u1 u2 v1 v2 g r : Nat} (hv : 0 < v1 * B + v2) (h : g * v1 + r = u0 * B + u1) (hu : u0 ≤ v1) (hu1 : u1 < B) (hv2 : v2 < B) (hr : B ≤ r) (hG : guess B u0 u1 u2 v1 v2 ≤ g) : g < B ∧ g = guess B u0 u1 u2 v1 v2 := by
  have h1 : g < B := by
    rcases Nat.lt_or_ge g B with h2 | h2
    · exact h2
    · have h3 : B * v1 ≤ g * v1 := Nat.mul_le_mul_right _ h2
      have h4 : u0 * B ≤ v1 * B := Nat.mul_le_mul_right _ hu
      rw [Nat.mul_comm v1 B] at h4
      omega
  refine ⟨h1, guess_done hv h h1 ?_ hG⟩
  have h5 : g * v2 ≤ B * B := Nat.mul_le_mul (by omega) (by omega)
  have h6 : B * B ≤ r * B := Nat.mul_le_mul_right _ hr
  omega
theorem guess_start {B u0 u1 u2 v1 v2 : Nat} (hv1 : 0 < v1) (hu2 : u2 < B) : guess B u0 u1 u2 v1 v2 ≤ (u0 * B + u1) / v1 := by
  rw [Nat.le_div_iff_mul_le hv1]
  have hB : 0 < B := by omega
  have h0 : guess B u0 u1 u2 v1 v2 ≤ ((u0 * B + u1) * B + u2) / (v1 * B + v2) := by unfold guess; omega
  have hv : 0 < v1 * B + v2 := by have := Nat.mul_pos hv1 hB; omega
  have h1 := (Nat.le_div_iff_mul_le hv).1 h0
  generalize guess B u0 u1 u2 v1 v2 = g at *
  rw [Nat.mul_add, ← Nat.mul_assoc] at h1
  have h2 : g * v1 * B < (u0 * B + u1 + 1) * B := by rw [Nat.add_mul (u0 * B + u1) 1 B, Nat.one_mul]; omega
  have h3 := Nat.lt_of_mul_lt_mul_right h2
  omega
theorem guess_quot {B k U V u v u0 u1 u2 v1 v2 : Nat} (hB : 0 < B) (hU : U = ((u0 * B + u1) * B + u2) * B ^ k + u) (hu : u < B ^ k) (hV : V = (v1 * B + v2) * B ^ k + v) (hv : v < B ^ k) (hlt : U < V * B) (hV2 : B ≤ v1 * B + v2) :
    U / V ≤ guess B u0 u1 u2 v1 v2 ∧ guess B u0 u1 u2 v1 v2 ≤ U / V + 1 := by
  unfold guess
  generalize (u0 * B + u1) * B + u2 = U3 at *
  generalize v1 * B + v2 = V2 at *
  have hP : 0 < B ^ k := Nat.pow_pos hB
  generalize B ^ k = P at *
  have hV0 : 0 < V := by have := Nat.mul_pos (show 0 < V2 by omega) hP; omega
  constructor
  · have h1 : U / V < B := (Nat.div_lt_iff_lt_mul hV0).2 (by rw [Nat.mul_comm]; exact hlt)
    have h2 := Nat.div_mul_le_self U V
    generalize U / V = Q at *
    have h3 : Q * V2 * P < (U3 + 1) * P := by
      rw [hV, Nat.mul_add, ← Nat.mul_assoc] at h2
      rw [Nat.add_mul U3 1 P, Nat.one_mul]
      omega
    have h4 := Nat.lt_of_mul_lt_mul_right h3
    have h5 : Q ≤ U3 / V2 := (Nat.le_div_iff_mul_le (by omega)).2 (by omega)
    omega
  · have h0 : min (B - 1) (U3 / V2) ≤ U3 / V2 := by omega
    have h1 := (Nat.le_div_iff_mul_le (show 0 < V2 by omega)).1 h0
    have hg : min (B - 1) (U3 / V2) ≤ B := by omega
    generalize min (B - 1) (U3 / V2) = g at *
    cases g with
    | zero => exact Nat.zero_le _
    | succ g =>
      have h2 : g ≤ U / V := by
        rw [Nat.le_div_iff_mul_le hV0, hV, hU, Nat.mul_add, ← Nat.mul_assoc]
        have h3 : (g + 1) * V2 * P ≤ U3 * P := Nat.mul_le_mul_right _ h1
        rw [Nat.add_mul, Nat.add_mul, Nat.one_mul] at h3
        have h4 : g * v ≤ V2 * P := Nat.mul_le_mul (by omega) (by omega)
        omega
      exact Nat.succ_le_succ h2
end Go.Proofs.YtjmkcckbbgpkeaaGreatDoor.Dig


namespace Go.Proofs.YtjmkcckbbgpkeaaGreatDoor.Dig
theorem shl_lt {B c p x low : Nat} (hB : B = c * p) (hlow : low < p) (hc : 0 < c) : x * p % B + low < B := by
  subst hB
  rw [Nat.mul_mod_mul_right]
  have h1 : x % c < c := Nat.mod_lt _ hc
  have h2 : (x % c + 1) * p ≤ c * p := Nat.mul_le_mul_right _ h1
  rw [Nat.add_mul, Nat.one_mul] at h2
  omega
theorem shl_step {B p k x low : Nat} {xs ls : List Nat} (hk : k < xs.length) (hl : k < ls.length) (ex : x = xs[k]?.getD 0) (h : val B (ls.take k) + B ^ k * low = val B (xs.take k) * p) :
    val B ((ls.set k (x * p % B + low)).take (k + 1)) + B ^ (k + 1) * (x * p / B) = val B (xs.take (k + 1)) * p := by
  rw [val_take_set B ls k _ hl, val_take_succ' B xs k hk]
  simp only [List.getD]
  rw [← ex, Nat.add_mul, ← h, Nat.mul_add, Nat.pow_succ]
  have e : B ^ k * (x * p % B) + B ^ k * B * (x * p / B) = B ^ k * x * p := by
    rw [Nat.mul_assoc, ← Nat.mul_add, Nat.mod_add_div, ← Nat.mul_assoc]
  omega
theorem shr_step {B p c d D : Nat} (hp : 0 < p) (hB : B = c * p) (hc : 0 < c) (hd : d < B) : (d + B * D) / p = (D % B * B + d) / p % B + B * (D / p) := by
  have hB0 : 0 < B := by rw [hB]; exact Nat.mul_pos hc hp
  have key : ∀ q r, r < p → ((q * p + r) * B + d) / p = q * B + (r * B + d) / p := by
    intro q r hr
    have e : (q * p + r) * B + d = (r * B + d) + p * (q * B) := by
      rw [Nat.add_mul, Nat.mul_assoc, Nat.mul_left_comm q p B]; omega
    rw [e, Nat.add_mul_div_left _ _ hp]
    omega
  have small : ∀ r, r < p → (r * B + d) / p < B := by
    intro r hr
    rw [Nat.div_lt_iff_lt_mul hp]
    have : (r + 1) * B ≤ p * B := Nat.mul_le_mul_right _ hr
    rw [Nat.add_mul, Nat.one_mul, Nat.mul_comm p B] at this
    omega
  have hr : D % p < p := Nat.mod_lt _ hp
  have h1 : (d + B * D) / p = D / p * B + (D % p * B + d) / p := by
    have := key (D / p) (D % p) hr
    rw [Nat.mul_comm (D / p) p, Nat.div_add_mod] at this
    rw [Nat.add_comm d, Nat.mul_comm B D]
    exact this
  have h2 : D % B % p = D % p := Nat.mod_mod_of_dvd D (by rw [hB]; exact Nat.dvd_mul_left _ _)
  have h3 : (D % B * B + d) / p = D % B / p * B + (D % p * B + d) / p := by
    have := key (D % B / p) (D % B % p) (by rw [h2]; exact hr)
    rw [Nat.mul_comm (D % B / p) p, Nat.div_add_mod, h2] at this
    exact this
  rw [h1, h3, Nat.add_comm (D % B / p * B), Nat.add_mul_mod_self_right, Nat.mod_eq_of_lt (small _ hr), Nat.mul_comm B]
  omega
theorem red_step {B i q x y pc br d br' : Nat} {uo un vs : List Nat} (hv : i < vs.length) (hu : i < uo.length) (hn : i < un.length) (ey : y = vs[i]?.getD 0) (ex : x = uo[i]?.getD 0) (hd : x + B * br' = d + (pc + y * q) % B + br)
    (h : val B (un.take i) + q * val B (vs.take i) = val B (uo.take i) + B ^ i * (pc + br)) :
    val B ((un.set i d).take (i + 1)) + q * val B (vs.take (i + 1)) = val B (uo.take (i + 1)) + B ^ (i + 1) * ((pc + y * q) / B + br') := by
  rw [val_take_set B un i _ hn, val_take_succ' B vs i hv, val_take_succ' B uo i hu]
  simp only [List.getD]
  rw [← ey, ← ex, Nat.pow_succ]
  have e1 : q * (B ^ i * y) = B ^ i * (y * q) := by rw [Nat.mul_left_comm, Nat.mul_comm q y]
  have e2 : B ^ i * B * ((pc + y * q) / B + br') + B ^ i * ((pc + y * q) % B) = B ^ i * (pc + y * q) + B ^ i * (B * br') := by
    rw [Nat.mul_assoc, ← Nat.mul_add, Nat.mul_add B, Nat.add_right_comm, Nat.div_add_mod, Nat.mul_add]
  have e3 : B ^ i * x + B ^ i * (B * br') = B ^ i * d + B ^ i * ((pc + y * q) % B) + B ^ i * br := by
    rw [← Nat.mul_add, hd, Nat.mul_add, Nat.mul_add]
  have e4 : B ^ i * (pc + y * q) = B ^ i * pc + B ^ i * (y * q) := Nat.mul_add _ _ _
  have e5 : q * (val B (vs.take i) + B ^ i * y) = q * val B (vs.take i) + q * (B ^ i * y) := Nat.mul_add _ _ _
  rw [Nat.mul_add] at h
  omega
theorem red_top {B q x pc br d br' n V : Nat} {uo un : List Nat} (hu : n + 1 = uo.length) (hn : n < un.length) (hl : un.length = uo.length) (ex : x = uo[n]?.getD 0) (hd : x + B * br' = d + pc + br)
    (h : val B (un.take n) + q * V = val B (uo.take n) + B ^ n * (pc + br)) :
    val B (un.set n d) + q * V = val B uo + B ^ (n + 1) * br' := by
  have h1 := val_take_set B un n d hn
  rw [List.take_of_length_le (by rw [List.length_set]; omega)] at h1
  have h2 := val_take_succ' B uo n (by omega)
  rw [List.take_of_length_le (by omega)] at h2
  simp only [List.getD] at h2
  rw [h1, h2, ← ex, Nat.pow_succ]
  have e3 : B ^ n * x + B ^ n * B * br' = B ^ n * d + B ^ n * pc + B ^ n * br := by
    rw [Nat.mul_assoc, ← Nat.mul_add, hd, Nat.mul_add, Nat.mul_add]
  rw [Nat.mul_add] at h
  omega
theorem red_none {q V U R : Nat} (hV : 0 < V) (h : R + q * V = U) (hq : U / V ≤ q) : q = U / V ∧ R = U % V := by
  have h1 : q ≤ U / V := (Nat.le_div_iff_mul_le hV).2 (by omega)
  have h2 : q = U / V := Nat.le_antisymm h1 hq
  refine ⟨h2, ?_⟩
  have h3 := Nat.div_add_mod U V
  rw [← h2, Nat.mul_comm] at h3
  omega
theorem red_back {q V U R R' M c : Nat} (hV : 0 < V) (hR : R < M) (hR' : R' < M) (h : R + q * V = U + M) (h' : R' + M * c = R + V) (hc : c ≤ 1) (hq : q ≤ U / V + 1) : 0 < q ∧ q - 1 = U / V ∧ R' = U % V := by
  have h1 : U / V < q := (Nat.div_lt_iff_lt_mul hV).2 (by omega)
  have h2 : q = U / V + 1 := Nat.le_antisymm hq h1
  have h3 := Nat.div_add_mod U V
  have h4 : q * V = V * (U / V) + V := by rw [h2, Nat.add_mul, Nat.one_mul, Nat.mul_comm]
  have hm : c = 0 ∨ c = 1 := by omega
  generalize U / V = Q at *
  refine ⟨by omega, by omega, ?_⟩
  generalize V * Q = X at *
  generalize q * V = Y at *
  rcases hm with rfl | rfl
  · simp at h'; omega
  · simp at h'; omega
end Go.Proofs.YtjmkcckbbgpkeaaGreatDoor.Dig


namespace Go.Proofs.YtjmkcckbbgpkeaaGreatDoor.Dig
theorem top3 {B n : Nat} {uo : List Nat} (h : uo.length = n + 1) (hn : 2 ≤ n) :
    val B uo = ((uo[n]?.getD 0 * B + uo[n - 1]?.getD 0) * B + uo[n - 2]?.getD 0) * B ^ (n - 2) + val B (uo.take (n - 2)) := by
  have h1 := val_split' B uo (n - 2) (by omega)
  have h2 := val_drop' B uo (n - 2) (by omega)
  have h3 := val_drop' B uo (n - 1) (by omega)
  have h4 := val_drop' B uo n (by omega)
  rw [List.drop_of_length_le (show uo.length ≤ n + 1 by omega), val_nil, Nat.mul_zero, Nat.add_zero] at h4
  rw [show n - 2 + 1 = n - 1 by omega] at h2
  rw [show n - 1 + 1 = n by omega] at h3
  simp only [List.getD] at h2 h3 h4
  rw [h1, h2, h3, h4, Nat.mul_comm (B ^ (n - 2)), Nat.add_comm (val B _)]
  congr 2
  rw [Nat.mul_comm B, Nat.add_comm, Nat.mul_comm B, Nat.add_comm (uo[n - 1]?.getD 0)]
theorem top2 {B n : Nat} {vs : List Nat} (h : vs.length = n) (hn : 2 ≤ n) : val B vs = (vs[n - 1]?.getD 0 * B + vs[n - 2]?.getD 0) * B ^ (n - 2) + val B (vs.take (n - 2)) := by
  have h1 := val_split' B vs (n - 2) (by omega)
  have h2 := val_drop' B vs (n - 2) (by omega)
  have h3 := val_drop' B vs (n - 1) (by omega)
  rw [show n - 1 + 1 = n by omega, List.drop_of_length_le (show vs.length ≤ n by omega), val_nil, Nat.mul_zero, Nat.add_zero] at h3
  rw [show n - 2 + 1 = n - 1 by omega] at h2
  simp only [List.getD] at h2 h3
  rw [h1, h2, h3, Nat.mul_comm (B ^ (n - 2)), Nat.add_comm (val B _), Nat.mul_comm B, Nat.add_comm (vs[n - 2]?.getD 0)]
theorem top1 {B n : Nat} {vs : List Nat} (h : vs.length = n + 1) : val B vs = vs[n]?.getD 0 * B ^ n + val B (vs.take n) := by
  have h1 := val_take_succ' B vs n (by omega)
  rw [List.take_of_length_le (by omega)] at h1
  simp only [List.getD] at h1
  rw [h1, Nat.mul_comm, Nat.add_comm]
theorem take_lt {B : Nat} (hB : 0 < B) {ds : List Nat} (h : ∀ d ∈ ds, d < B) (k : Nat) (hk : k ≤ ds.length) : val B (ds.take k) < B ^ k := by
  have := val_lt hB (ds := ds.take k) (fun d hd => h d (List.mem_of_mem_take hd))
  rw [List.length_take, Nat.min_eq_left hk] at this
  exact this
/-- The divisor's highest bit is set: the shifted numbers. -/
theorem norm {B n p : Nat} {ys : List Nat} (hB : 0 < B) (hys : ∀ d ∈ ys, d < B) (h : ys.length = n + 1) (h2 : (ys[n]?.getD 0 + 1) * p ≤ B) (h1 : B ≤ 2 * (ys[n]?.getD 0 * p)) :
    val B ys * p < B ^ (n + 1) ∧ B ^ (n + 1) ≤ 2 * (val B ys * p) := by
  have e := top1 (B := B) h
  have hl := take_lt hB hys n (by omega)
  generalize ys[n]?.getD 0 = t at *
  generalize val B (ys.take n) = l at *
  have hP : 0 < B ^ n := Nat.pow_pos hB
  have hp : 0 < p := by
    rcases Nat.eq_zero_or_pos p with e0 | e0
    · subst e0; simp at h1; omega
    · exact e0
  rw [e, Nat.pow_succ]
  constructor
  · have h3 : (t * B ^ n + l) * p < ((t + 1) * B ^ n) * p := Nat.mul_lt_mul_of_pos_right (by rw [Nat.add_mul, Nat.one_mul]; omega) hp
    refine Nat.lt_of_lt_of_le h3 ?_
    rw [Nat.mul_right_comm, Nat.mul_comm]
    exact Nat.mul_le_mul_left _ h2
  · have h3 : B ^ n * B ≤ B ^ n * (2 * (t * p)) := Nat.mul_le_mul_left _ h1
    refine Nat.le_trans h3 ?_
    rw [Nat.mul_left_comm]
    refine Nat.mul_le_mul_left _ ?_
    rw [Nat.add_mul, Nat.mul_comm (B ^ n), Nat.mul_right_comm]
    omega
/-- The window of the dividend that one digit of the quotient is taken from. -/
theorem window {B j n V : Nat} {du : List Nat} (hB : 0 < B) (hdu : ∀ d ∈ du, d < B) (hj : j + n + 1 ≤ du.length) (hlow : val B (du.drop (j + 1)) < V) (hV : V ≤ B ^ n) :
    val B (du.drop (j + n + 1)) = 0 ∧ val B ((du.drop j).take (n + 1)) = val B (du.drop j) ∧ val B (du.drop j) < V * B := by
  have h1 := val_drop' B du j (by omega)
  have hd : du.getD j 0 < B := by
    rw [List.getD_eq_getElem?_getD, List.getElem?_eq_getElem (by omega)]
    exact hdu _ (List.getElem_mem _)
  have h2 : B * (val B (du.drop (j + 1)) + 1) ≤ B * V := Nat.mul_le_mul_left _ hlow
  rw [Nat.mul_add, Nat.mul_one] at h2
  have h3 : val B (du.drop j) < V * B := by rw [h1, Nat.mul_comm V]; omega
  have h4 := val_split' B (du.drop j) (n + 1) (by rw [List.length_drop]; omega)
  rw [List.drop_drop] at h4
  have h5 : V * B ≤ B ^ (n + 1) := by rw [Nat.pow_succ]; exact Nat.mul_le_mul_right _ hV
  have h6 : val B (du.drop (j + (n + 1))) = 0 := by
    rcases Nat.eq_zero_or_pos (val B (du.drop (j + (n + 1)))) with e | e
    · exact e
    · have := Nat.mul_le_mul_left (B ^ (n + 1)) (show 1 ≤ val B (du.drop (j + (n + 1))) from e)
      omega
  refine ⟨h6, ?_, h3⟩
  rw [h6, Nat.mul_zero, Nat.add_zero] at h4
  exact h4.symm
theorem split3 (du : List Nat) (j n : Nat) : du = du.take j ++ ((du.drop j).take (n + 1) ++ du.drop (j + n + 1)) := by
  rw [show du.drop (j + n + 1) = (du.drop j).drop (n + 1) by rw [List.drop_drop, Nat.add_assoc], List.take_append_drop, List.take_append_drop]
theorem top_le {B n U V u0 v1 u v : Nat} (hU : U = u0 * B ^ (n + 1) + u) (hV : V = v1 * B ^ n + v) (hv : v < B ^ n) (hlt : U < V * B) : u0 ≤ v1 := by
  rcases Nat.lt_or_ge v1 u0 with h | h
  · have h1 : (v1 + 1) * B ^ (n + 1) ≤ u0 * B ^ (n + 1) := Nat.mul_le_mul_right _ h
    have h2 : V * B ≤ (v1 + 1) * B ^ n * B := Nat.mul_le_mul_right _ (by rw [hV, Nat.add_mul, Nat.one_mul]; omega)
    rw [Nat.mul_assoc, show B ^ n * B = B ^ (n + 1) from rfl] at h2
    omega
  · exact h
theorem low_start {B nq n p V X : Nat} {us : List Nat} (hB : 0 < B) (hus : nq ≤ us.length) (hX : val B us = X * p) (hX2 : X < B ^ (nq + n)) (hV : B ^ (n + 1) ≤ 2 * V) (hp : 2 * p ≤ B) (hp0 : 0 < p) : val B (us.drop nq) < V := by
  rcases Nat.lt_or_ge (val B (us.drop nq)) V with h | h
  · exact h
  · exfalso
    have h1 := val_split' B us nq hus
    have h2 : B ^ nq * V ≤ B ^ nq * val B (us.drop nq) := Nat.mul_le_mul_left _ h
    have h3 : B ^ nq * B ^ (n + 1) ≤ B ^ nq * (2 * V) := Nat.mul_le_mul_left _ hV
    have h4 : B ^ (nq + n) * (2 * p) ≤ B ^ (nq + n) * B := Nat.mul_le_mul_left _ hp
    have h5 : X * p < B ^ (nq + n) * p := Nat.mul_lt_mul_of_pos_right hX2 hp0
    have e1 : B ^ nq * B ^ (n + 1) = B ^ (nq + n) * B := by rw [← Nat.pow_add, ← Nat.add_assoc, Nat.pow_succ]
    have e2 : B ^ (nq + n) * (2 * p) = 2 * (B ^ (nq + n) * p) := by rw [Nat.mul_left_comm]
    have e3 : B ^ nq * (2 * V) = 2 * (B ^ nq * V) := by rw [Nat.mul_left_comm]
    omega
/-- One digit of the quotient. -/
theorem div_step {B j k n A V : Nat} {du dq un : List Nat} (hk : k = j + 1) (hj : j + n + 1 ≤ du.length) (hq : j < dq.length) (hV : 0 < V) (hA : A = val B (dq.drop k) * B ^ k * V + val B du)
    (hb : val B (du.drop (j + n + 1)) = 0) (hw : val B ((du.drop j).take (n + 1)) = val B (du.drop j)) (hun : un.length = n + 1) (hr : val B un = val B ((du.drop j).take (n + 1)) % V) :
    A = val B ((dq.set j (val B ((du.drop j).take (n + 1)) / V)).drop j) * B ^ j * V + val B (du.take j ++ (un ++ du.drop (j + n + 1))) ∧ val B ((du.take j ++ (un ++ du.drop (j + n + 1))).drop j) < V := by
  subst hk
  have hl : (du.take j).length = j := by rw [List.length_take, Nat.min_eq_left (by omega)]
  constructor
  · rw [drop_set_self _ _ _ hq, val_cons, val_append, val_append, hb, Nat.mul_zero, Nat.add_zero, hl, hr]
    simp only [Nat.add_zero]
    have h1 := val_split' B du j (by omega)
    rw [← hw] at h1
    rw [hA, h1]
    generalize val B ((du.drop j).take (n + 1)) = U at *
    generalize val B (du.take j) = L
    generalize val B (dq.drop (j + 1)) = D
    have h2 := Nat.div_add_mod U V
    have e1 : B ^ j * U = B ^ j * (V * (U / V)) + B ^ j * (U % V) := by rw [← Nat.mul_add, h2]
    have e2 : (U / V + B * D) * B ^ j * V = B ^ j * (V * (U / V)) + D * B ^ (j + 1) * V := by
      rw [Nat.add_mul, Nat.add_mul, Nat.pow_succ]
      congr 1
      · rw [Nat.mul_comm (U / V), Nat.mul_assoc, Nat.mul_comm (U / V)]
      · rw [Nat.mul_comm B D, Nat.mul_assoc D B, Nat.mul_comm B]
    omega
  · rw [List.drop_append_of_le_length (by omega), List.drop_of_length_le (by omega), List.nil_append, val_append, hb, Nat.mul_zero, Nat.add_zero, hr]
    exact Nat.mod_lt _ hV
theorem digit_facts {B j : Nat} {du vs : List Nat} (hB : 2 ≤ B) (hL : 2 ≤ vs.length) (hdu : ∀ d ∈ du, d < B) (hvs : ∀ d ∈ vs, d < B) (hj : j + vs.length + 1 ≤ du.length) (hlow : val B (du.drop (j + 1)) < val B vs) (hnorm : B ^ vs.length ≤ 2 * val B vs) :
    val B (du.drop (j + vs.length + 1)) = 0 ∧ val B ((du.drop j).take (vs.length + 1)) = val B (du.drop j) ∧
    val B ((du.drop j).take (vs.length + 1)) / val B vs ≤ guess B (du[j + vs.length]?.getD 0) (du[j + vs.length - 1]?.getD 0) (du[j + vs.length - 2]?.getD 0) (vs[vs.length - 1]?.getD 0) (vs[vs.length - 2]?.getD 0) ∧
    guess B (du[j + vs.length]?.getD 0) (du[j + vs.length - 1]?.getD 0) (du[j + vs.length - 2]?.getD 0) (vs[vs.length - 1]?.getD 0) (vs[vs.length - 2]?.getD 0) ≤ val B ((du.drop j).take (vs.length + 1)) / val B vs + 1 ∧
    du[j + vs.length]?.getD 0 ≤ vs[vs.length - 1]?.getD 0 ∧ B ≤ 2 * vs[vs.length - 1]?.getD 0 + 1 ∧ 0 < val B vs := by
  have hB0 : 0 < B := by omega
  have hVlt := val_lt hB0 hvs
  obtain ⟨wz, ww, wl⟩ := window (n := vs.length) hB0 hdu (by omega) hlow (Nat.le_of_lt hVlt)
  have hwl : ((du.drop j).take (vs.length + 1)).length = vs.length + 1 := by rw [List.length_take, List.length_drop]; omega
  have hwd : ∀ d ∈ (du.drop j).take (vs.length + 1), d < B := fun d hd => hdu d (List.mem_of_mem_drop (List.mem_of_mem_take hd))
  have t3 := top3 (B := B) hwl (by omega)
  have t2 := top2 (B := B) (vs := vs) rfl hL
  have t1 := top1 (B := B) (vs := vs) (n := vs.length - 1) (by omega)
  have s1 := top1 (B := B) hwl
  have wget : ∀ i, i ≤ vs.length → ((du.drop j).take (vs.length + 1))[i]?.getD 0 = du[j + i]?.getD 0 := fun i hi => by
    rw [List.getElem?_take, if_pos (by omega), List.getElem?_drop]
  rw [wget _ (Nat.le_refl _), wget (vs.length - 1) (by omega), wget (vs.length - 2) (by omega), show j + (vs.length - 1) = j + vs.length - 1 by omega, show j + (vs.length - 2) = j + vs.length - 2 by omega] at t3
  rw [wget _ (Nat.le_refl _)] at s1
  have l3 := take_lt hB0 hwd (vs.length - 2) (by omega)
  have l2 := take_lt hB0 hvs (vs.length - 2) (by omega)
  have l1 := take_lt hB0 hvs (vs.length - 1) (by omega)
  have hlt : val B ((du.drop j).take (vs.length + 1)) < val B vs * B := by rw [ww]; exact wl
  have hv1 : B ≤ 2 * vs[vs.length - 1]?.getD 0 + 1 := by
    rcases Nat.lt_or_ge (2 * vs[vs.length - 1]?.getD 0 + 1) B with h | h
    · exfalso
      have h1 : B ^ vs.length = B ^ (vs.length - 1) * B := by rw [← Nat.pow_succ]; congr 1; omega
      have h2 : B ^ (vs.length - 1) * (2 * vs[vs.length - 1]?.getD 0 + 2) ≤ B ^ (vs.length - 1) * B := Nat.mul_le_mul_left _ h
      rw [Nat.mul_add, Nat.mul_left_comm, Nat.mul_comm (B ^ (vs.length - 1)) (vs[vs.length - 1]?.getD 0)] at h2
      omega
    · exact h
  have hV0 : 0 < val B vs := by
    have : 0 < B ^ vs.length := Nat.pow_pos hB0
    omega
  have htop : du[j + vs.length]?.getD 0 ≤ vs[vs.length - 1]?.getD 0 := by
    exact top_le (n := vs.length - 1) (by rw [show vs.length - 1 + 1 = vs.length by omega]; exact s1) t1 l1 hlt
  have hV2 : B ≤ vs[vs.length - 1]?.getD 0 * B + vs[vs.length - 2]?.getD 0 := by
    have : 1 * B ≤ vs[vs.length - 1]?.getD 0 * B := Nat.mul_le_mul_right _ (by omega)
    omega
  obtain ⟨q1, q2⟩ := guess_quot hB0 t3 l3 t2 l2 hlt hV2
  exact ⟨wz, ww, q1, q2, htop, hv1, hV0⟩
end Go.Proofs.YtjmkcckbbgpkeaaGreatDoor.Dig


namespace Go.Proofs.YtjmkcckbbgpkeaaGreatDoor
open Go.RowKit
theorem pow_split (s : Nat) (hs : s < 32) : B32 = 2 ^ (32 - s) * 2 ^ s := by
  rw [← Nat.pow_add, Nat.sub_add_cancel (by omega)]; rfl
theorem shl_digit (x low s : Nat) (hx : x < 4294967296) (hs : s < 32) (hlow : low < 2 ^ s) :
    bits BinOp.or IntKind.u32 ((x : Int) * 2 ^ s % 4294967296) (low : Int) = ((x * 2 ^ s % B32 + low : Nat) : Int) ∧ IntKind.u64.wrap ((x : Int) * 2 ^ s) / 4294967296 % 4294967296 = ((x * 2 ^ s / B32 : Nat) : Int) ∧ x * 2 ^ s / B32 < 2 ^ s ∧ x * 2 ^ s % B32 + low < B32 := by
  have hp : 2 ^ s < 4294967296 := Nat.pow_lt_pow_of_lt (a := 2) (by decide) hs
  have hc : 0 < 2 ^ (32 - s) := Nat.pow_pos (by decide)
  have e : (x : Int) * 2 ^ s = ((x * 2 ^ s : Nat) : Int) := by rw [Int.natCast_mul, Int.natCast_pow]; rfl
  have h1 : x * 2 ^ s < 4294967296 * 2 ^ s := Nat.mul_lt_mul_of_pos_right hx (Nat.pow_pos (by decide))
  have h2 := Dig.shl_lt (x := x) (pow_split s hs) hlow hc
  have hm : x * 2 ^ s % B32 = 2 ^ s * (x % 2 ^ (32 - s)) := by
    rw [pow_split s hs, Nat.mul_mod_mul_right, Nat.mul_comm]
  have hor : x * 2 ^ s % B32 ||| low = x * 2 ^ s % B32 + low := by
    rw [hm]; exact (Nat.two_pow_add_eq_or_of_lt hlow _).symm
  rw [B32_eq] at *
  refine ⟨?_, ?_, ?_, h2⟩
  · rw [e, show ((x * 2 ^ s : Nat) : Int) % 4294967296 = ((x * 2 ^ s % 4294967296 : Nat) : Int) by omega, u32_or_nat _ _ (by omega) (by omega), hor]
  · rw [e, IntKind.wrap_u64]
    omega
  · rw [Nat.div_lt_iff_lt_mul (by decide), Nat.mul_comm (2 ^ s)]; exact h1
set_option maxHeartbeats 2000000 in
theorem shl_any (A : Option Addr) (c s len : Nat) (xs : List Nat) (w : World) (hc : xs.length ≤ c) (hxs : ∀ d ∈ xs, d < B32) (hr : RdT w 120 A (u32s xs)) (hn : xs.length ≤ 1073741824) (hs : s < 32) (hlen : len = xs.length ∨ len = xs.length + 1) :
    Calls Tryz.prog 123 #[.slice A xs.length c, .int .i64 s, .int .i64 len] w fun e w' => ∃ (g : Nat) (ls : List Nat), e = .returned (.slice (some ⟨g, 0, none⟩) len len) ∧ Row w' g ls ∧ ls.length = len ∧ (∀ d ∈ ls, d < B32) ∧ w.heap.size ≤ g ∧ Ext w w' ∧ Dig.val B32 ls = Dig.val B32 xs * 2 ^ s % B32 ^ len := by
  have hmk := run_make_row' (P := Tryz.prog) 34 120 (.int .u32 0) 4 Tryz.underlying34 Tryz.info167 rfl .i64 .i64 len (by omega) (by omega)
  have hl1 : xs.length ≤ len := by omega
  have hl2 : len ≤ xs.length + 1 := by omega
  clear hlen
  go_enter Tryz.func123, Tryz.ntmps123
  go_wp2
  clear hmk
  go_loopw [8, 9, 10, 15] (fun lo _ _ it wr => ∃ (k low : Nat) (ls : List Nat), k ≤ xs.length ∧ it = .int .i64 k ∧ lo = .int .u32 low ∧ low < 2 ^ s ∧ ls.length = len ∧ (∀ d ∈ ls, d < B32) ∧ (∀ j, k ≤ j → ls[j]?.getD 0 = 0) ∧
      Dig.val B32 (ls.take k) + B32 ^ k * low = Dig.val B32 (xs.take k) * 2 ^ s ∧ Row wr w.heap.size ls ∧ Ext w wr) (fun _ _ _ i _ => xs.length - (intOf i).toNat)
  case atStart =>
    refine ⟨0, 0, List.replicate len 0, Nat.zero_le _, rfl, rfl, Nat.pow_pos (by decide), by simp, fun d hd => ?_, fun j _ => ?_, by simp [Dig.val], Row.made _ _ rfl, (Ext.refl _).alloc _⟩
    · have := List.eq_of_mem_replicate hd; subst this; exact B32_pos
    · rw [List.getElem?_replicate]; split <;> rfl
  case round =>
    obtain ⟨k, low, ls, hk, rfl, rfl, hlow, hll, hlt, hzero, hval, hrow, hx⟩ := hrel
    have HV := Lib.hid hval
    have HLL := Lib.hid hll
    have HZ := Lib.hid hzero
    clear hval hll hzero
    by_cases hkl : k < xs.length
    · obtain ⟨b1, o1, rfl, hb1, hcell1⟩ := hr.rd.u32 (k := k) (by omega)
      have hk1 : wr.cell? ⟨b1, o1 + k, none⟩ = _ := (hx.cell (p := ⟨b1, o1 + k, none⟩) hb1).trans (hcell1 k (by omega))
      have hkd := hrow.cell (i := k) (by have := HLL.out; omega)
      have hkf := hrow.frozen k
      have hx0 := u32s_mem_lt hxs k
      rw [B32_eq] at hx0
      generalize hxe : xs[k]?.getD 0 = x at *
      generalize ls[k]?.getD 0 = dk at *
      have HX := Lib.hid hxe
      have HLOW := Lib.hid hlow
      clear hxe hcell1 hlow
      obtain ⟨d1, d2, d3, d4⟩ := shl_digit x low s hx0 hs HLOW.out
      have D1 := Lib.hid d1
      have D2 := Lib.hid d2
      have D3 := Lib.hid d3
      have D4 := Lib.hid d4
      clear d1 d2 d3 d4
      go_wp2
      go_roundw
      case rel =>
        rw [D1.out, D2.out]
        exact ⟨k + 1, x * 2 ^ s / B32, ls.set k (x * 2 ^ s % B32 + low), by omega, by go_num, rfl, D3.out, by rw [List.length_set]; exact HLL.out, Dig.set_lt hlt D4.out, fun j hj => by rw [List.getElem?_set_ne (by omega)]; exact HZ.out j (by omega),
          Dig.shl_step hkl (by have := HLL.out; omega) HX.out.symm HV.out, hrow.set_ _ _, Below.setCell hx (by simp) _⟩
      case measure => simp [intOf]; omega
    · have hke : k = xs.length := by omega
      subst hke
      rw [List.take_of_length_le (Nat.le_refl _)] at HV
      have hvx := Dig.val_lt B32_pos hxs
      by_cases hlen : xs.length < len
      · have hle : len = xs.length + 1 := by omega
        subst hle
        have hkd := hrow.cell (i := xs.length) (by have := HLL.out; omega)
        have hkf := hrow.frozen xs.length
        generalize ls[xs.length]?.getD 0 = dk at *
        have hp : 2 ^ s < B32 := by show 2 ^ s < 2 ^ 32; exact Nat.pow_lt_pow_of_lt (by decide) hs
        have hfin : Dig.val B32 (ls.set xs.length low) = Dig.val B32 xs * 2 ^ s % B32 ^ (xs.length + 1) := by
          have h1 := Dig.val_take_set B32 ls xs.length low (by have := HLL.out; omega)
          rw [List.take_of_length_le (by rw [List.length_set]; have := HLL.out; omega)] at h1
          rw [h1, HV.out, Nat.mod_eq_of_lt]
          rw [Nat.pow_succ]
          exact Nat.mul_lt_mul_of_lt_of_le hvx (Nat.le_of_lt hp) B32_pos
        have HF := Lib.hid hfin
        have HP := Lib.hid hp
        clear hfin hvx hp
        go_wp2
        go_ret
        exact ⟨w.heap.size, ls.set xs.length low, rfl, hrow.set_ _ _, by rw [List.length_set]; exact HLL.out, Dig.set_lt hlt (Nat.lt_trans hlow HP.out), Nat.le_refl _, Below.setCell hx (by simp) _, HF.out⟩
      · have hle : len = xs.length := by omega
        subst hle
        have hfin : Dig.val B32 ls = Dig.val B32 xs * 2 ^ s % B32 ^ xs.length := by
          have h1 := HV.out
          rw [List.take_of_length_le (by rw [HLL.out]; exact Nat.le_refl _)] at h1
          have h2 := Dig.val_lt B32_pos hlt
          rw [HLL.out] at h2
          rw [← h1, Nat.add_mul_mod_self_left, Nat.mod_eq_of_lt h2]
        have HF := Lib.hid hfin
        clear hfin hvx
        go_wp2
        go_ret
        exact ⟨w.heap.size, ls, rfl, hrow, HLL.out, hlt, Nat.le_refl _, hx, HF.out⟩
theorem drop_mod (xs : List Nat) (hxs : ∀ d ∈ xs, d < B32) (k : Nat) : Dig.val B32 (xs.drop k) % B32 = xs[k]?.getD 0 := by
  by_cases hk : k < xs.length
  · rw [Dig.val_drop' B32 xs k hk, Nat.add_mul_mod_self_left, Nat.mod_eq_of_lt]
    · rfl
    · exact u32s_mem_lt hxs k
  · rw [List.drop_of_length_le (by omega), List.getElem?_eq_none (by omega)]
    rfl
set_option maxHeartbeats 2000000 in
theorem shr_any (A : Option Addr) (c s : Nat) (xs : List Nat) (w : World) (hc : xs.length ≤ c) (hxs : ∀ d ∈ xs, d < B32) (hr : RdT w 120 A (u32s xs)) (hn : xs.length ≤ 1073741824) (hs : s < 32) :
    Calls Tryz.prog 125 #[.slice A xs.length c, .int .i64 s] w fun e w' => ∃ (g : Nat) (ls : List Nat), e = .returned (.slice (some ⟨g, 0, none⟩) xs.length xs.length) ∧ Row w' g ls ∧ ls.length = xs.length ∧ (∀ d ∈ ls, d < B32) ∧ w.heap.size ≤ g ∧ Ext w w' ∧ Dig.val B32 ls = Dig.val B32 xs / 2 ^ s := by
  have hmk := run_make_row' (P := Tryz.prog) 34 120 (.int .u32 0) 4 Tryz.underlying34 Tryz.info167 rfl .i64 .i64 xs.length (by omega) (by omega)
  go_enter Tryz.func125, Tryz.ntmps125
  go_wp2
  clear hmk
  go_loopw [6, 7, 8] (fun hi it _ wr => ∃ (k : Nat) (ls : List Nat), k ≤ xs.length ∧ it = .int .i64 (k - 1) ∧ hi = .int .u32 ((xs[k]?.getD 0 : Nat) : Int) ∧ ls.length = xs.length ∧ (∀ d ∈ ls, d < B32) ∧
      Dig.val B32 (ls.drop k) = Dig.val B32 (xs.drop k) / 2 ^ s ∧ Row wr w.heap.size ls ∧ Ext w wr) (fun _ i _ _ => (intOf i + 1).toNat)
  case atStart =>
    refine ⟨xs.length, List.replicate xs.length 0, Nat.le_refl _, rfl, by simp, by simp, fun d hd => ?_, ?_, Row.made _ _ rfl, (Ext.refl _).alloc _⟩
    · have := List.eq_of_mem_replicate hd; subst this; exact B32_pos
    · rw [List.drop_of_length_le (Nat.le_refl _), List.drop_of_length_le (by simp)]; simp [Dig.val]
  case round =>
    obtain ⟨k, ls, hk, rfl, rfl, hll, hlt, hval, hrow, hx⟩ := hrel
    have HV := Lib.hid hval
    have HLL := Lib.hid hll
    clear hval hll
    by_cases hk0 : 0 < k
    · obtain ⟨b1, o1, rfl, hb1, hcell1⟩ := hr.rd.u32 (k := k - 1) (by omega)
      have hk1 : wr.cell? ⟨b1, o1 + (k - 1), none⟩ = _ := (hx.cell (p := ⟨b1, o1 + (k - 1), none⟩) hb1).trans (hcell1 (k - 1) (by omega))
      have hne : b1 ≠ w.heap.size := by omega
      have hkd := hrow.cell (i := k - 1) (by have := HLL.out; omega)
      have hkf := hrow.frozen (k - 1)
      have hx0 := u32s_mem_lt hxs (k - 1)
      have hx1 := u32s_mem_lt hxs k
      have hmod := drop_mod xs hxs k
      rw [B32_eq] at hx0 hx1
      have hvd := Dig.val_drop' B32 xs (k - 1) (by omega)
      simp only [List.getD] at hvd
      rw [Nat.sub_add_cancel hk0] at hvd
      generalize hxe : xs[k - 1]?.getD 0 = x at *
      generalize xs[k]?.getD 0 = hi at *
      generalize ls[k - 1]?.getD 0 = dk at *
      have HX := Lib.hid hxe
      have hst := Dig.shr_step (D := Dig.val B32 (xs.drop k)) (Nat.pow_pos (by decide)) (pow_split s hs) (Nat.pow_pos (by decide)) (show x < B32 by rw [B32_eq]; exact hx0)
      rw [hmod, ← hvd] at hst
      have HST := Lib.hid hst
      have hor := or_low hi x (by omega) (by omega) (by omega) (by omega)
      have hcast : ((hi : Int) * 4294967296 + x) / 2 ^ s % 4294967296 = (((hi * B32 + x) / 2 ^ s % B32 : Nat) : Int) := by
        rw [B32_eq, Int.natCast_emod, Int.natCast_ediv, Int.natCast_add, Int.natCast_mul, Int.natCast_pow]
        rfl
      have HC := Lib.hid hcast
      clear hxe hcell1 hst hvd hmod hcast
      go_wp2
      go_roundw
      case rel =>
        refine ⟨k - 1, ls.set (k - 1) ((hi * B32 + x) / 2 ^ s % B32), by omega, by go_num, by rw [HX.out], by rw [List.length_set]; exact HLL.out, Dig.set_lt hlt (Nat.mod_lt _ B32_pos), ?_, ?_, Below.setCell hx (by simp) _⟩
        · rw [Dig.drop_set_self _ _ _ (by have := HLL.out; omega), Nat.sub_add_cancel hk0, Dig.val_cons, HV.out, HST.out]
        · rw [HC.out]; exact hrow.set_ _ _
      case measure => simp [intOf]; omega
    · have hke : k = 0 := by omega
      subst hke
      go_wp2
      go_ret
      have := HV.out
      rw [List.drop_zero, List.drop_zero] at this
      exact ⟨w.heap.size, ls, rfl, hrow, HLL.out, hlt, Nat.le_refl _, hx, this⟩
end Go.Proofs.YtjmkcckbbgpkeaaGreatDoor


namespace Go.Proofs.YtjmkcckbbgpkeaaGreatDoor
open Go.RowKit
theorem win_get (a un b : List Nat) (i : Nat) (h : i < un.length) : (a ++ (un ++ b))[a.length + i]?.getD 0 = un[i]?.getD 0 := by
  rw [List.getElem?_append_right (by omega), Nat.add_sub_cancel_left, List.getElem?_append_left h]
theorem win_set (a un b : List Nat) (i d : Nat) (h : i < un.length) : (a ++ (un ++ b)).set (a.length + i) d = a ++ (un.set i d ++ b) := by
  rw [List.set_append_right _ _ (by omega), Nat.add_sub_cancel_left, List.set_append_left _ _ h]
theorem red_digit (y q pc : Nat) (hy : y < 4294967296) (hq : q < 4294967296) (hp : pc < 4294967296) :
    (y : Int) * q ≤ 18446744065119617025 ∧ 0 ≤ (y : Int) * q ∧ ((pc : Int) + y * q) / 4294967296 = (((pc + y * q) / B32 : Nat) : Int) ∧ ((pc : Int) + y * q) % 4294967296 = (((pc + y * q) % B32 : Nat) : Int) ∧ (pc + y * q) / B32 < 4294967296 ∧ (pc + y * q) % B32 < 4294967296 := by
  have h1 : y * q ≤ 4294967295 * 4294967295 := Nat.mul_le_mul (by omega) (by omega)
  have e : (y : Int) * q = ((y * q : Nat) : Int) := by rw [Int.natCast_mul]
  rw [e, B32_eq]
  generalize y * q = P at *
  refine ⟨by omega, by omega, by omega, by omega, by omega, by omega⟩
theorem only_set {a w : World} {g : Nat} (h : a.grownBy w (some g)) (k : Nat) (u : Value) : a.grownBy (w.setCell ⟨g, k, none⟩ u) (some g) := h.trans (grown_set w g k u)
theorem add_digit (x y cr : Nat) (hx : x < 4294967296) (hy : y < 4294967296) (hc : cr ≤ 1) :
    ∃ d cr' : Nat, ((x : Int) + y + cr) % 4294967296 = d ∧ ((x : Int) + y + cr) / 4294967296 = cr' ∧ x + y + cr = d + B32 * cr' ∧ d < B32 ∧ cr' ≤ 1 := by
  refine ⟨(((x : Int) + y + cr) % 4294967296).toNat, (((x : Int) + y + cr) / 4294967296).toNat, by omega, by omega, ?_, ?_, by omega⟩
  · rw [B32_eq]; omega
  · rw [B32_eq]; omega
theorem back_step {B i x y cr d cr' : Nat} {uo un vs : List Nat} (hv : i < vs.length) (hu : i < uo.length) (hn : i < un.length) (ey : y = vs[i]?.getD 0) (ex : x = uo[i]?.getD 0) (hd : x + y + cr = d + B * cr')
    (h : Dig.val B (un.take i) + B ^ i * cr = Dig.val B (uo.take i) + Dig.val B (vs.take i)) :
    Dig.val B ((un.set i d).take (i + 1)) + B ^ (i + 1) * cr' = Dig.val B (uo.take (i + 1)) + Dig.val B (vs.take (i + 1)) := by
  rw [Dig.val_take_set B un i _ hn, Dig.val_take_succ' B vs i hv, Dig.val_take_succ' B uo i hu]
  simp only [List.getD]
  rw [← ey, ← ex, Nat.pow_succ]
  have e3 : B ^ i * x + B ^ i * y + B ^ i * cr = B ^ i * d + B ^ i * B * cr' := by
    rw [← Nat.mul_add, ← Nat.mul_add, hd, Nat.mul_add, Nat.mul_assoc]
  omega
theorem back_top {B x cr d cr' n V : Nat} {uo un : List Nat} (hu : n + 1 = uo.length) (hn : n < un.length) (hl : un.length = uo.length) (ex : x = uo[n]?.getD 0) (hd : x + cr = d + B * cr')
    (h : Dig.val B (un.take n) + B ^ n * cr = Dig.val B (uo.take n) + V) : Dig.val B (un.set n d) + B ^ (n + 1) * cr' = Dig.val B uo + V := by
  have h1 := Dig.val_take_set B un n d hn
  rw [List.take_of_length_le (by rw [List.length_set]; omega)] at h1
  have h2 := Dig.val_take_succ' B uo n (by omega)
  rw [List.take_of_length_le (by omega)] at h2
  simp only [List.getD] at h2
  rw [h1, h2, ← ex, Nat.pow_succ]
  have e3 : B ^ n * x + B ^ n * cr = B ^ n * d + B ^ n * B * cr' := by
    rw [← Nat.mul_add, hd, Nat.mul_add, Nat.mul_assoc]
  omega
set_option maxRecDepth 100000 in
set_option maxHeartbeats 4000000 in
theorem reduce_any (g : Nat) (a uo b vs : List Nat) (AV : Option Addr) (cv q : Nat) (w : World) (hrow : Row w g (a ++ (uo ++ b))) (hul : uo.length = vs.length + 1) (hal : a.length ≤ 1073741824) (huo : ∀ d ∈ uo, d < B32) (hvs : ∀ d ∈ vs, d < B32) (hv : RdT w 120 AV (u32s vs)) (hvg : vs ≠ [] → ∀ ad, AV = some ad → ad.block ≠ g)
    (hcv : vs.length ≤ cv) (hn : vs.length ≤ 1073741824) (hq : q < 4294967296) (hV : 0 < Dig.val B32 vs) (hq1 : Dig.val B32 uo / Dig.val B32 vs ≤ q) (hq2 : q ≤ Dig.val B32 uo / Dig.val B32 vs + 1) :
    Calls Tryz.prog 124 #[.slice (some ⟨g, a.length, none⟩) (vs.length + 1) (vs.length + 1), .slice AV vs.length cv, .int .u32 (q : Int)] w fun e w' => e = .returned (.int .u32 ((Dig.val B32 uo / Dig.val B32 vs : Nat) : Int)) ∧
      ∃ un, Row w' g (a ++ (un ++ b)) ∧ un.length = vs.length + 1 ∧ (∀ d ∈ un, d < B32) ∧ Dig.val B32 un = Dig.val B32 uo % Dig.val B32 vs ∧ w.grownBy w' (some g) := by
  have HQ1 := Lib.hid hq1
  have HQ2 := Lib.hid hq2
  have HUL := Lib.hid hul
  have HVV := Lib.hid hV
  clear hq1 hq2 hul hV
  go_enter Tryz.func124, Tryz.ntmps124
  go_wp2
  go_loopw [8, 9, 10, 16] (fun pt bt _ it wr => ∃ (i pc br : Nat) (un : List Nat), i ≤ vs.length ∧ it = .int .i64 i ∧ pt = .int .u64 pc ∧ bt = .int .u32 br ∧ pc < 4294967296 ∧ br ≤ 1 ∧ un.length = vs.length + 1 ∧ (∀ d ∈ un, d < B32) ∧ (∀ k, i ≤ k → un[k]?.getD 0 = uo[k]?.getD 0) ∧
      Dig.val B32 (un.take i) + q * Dig.val B32 (vs.take i) = Dig.val B32 (uo.take i) + B32 ^ i * (pc + br) ∧ Row wr g (a ++ (un ++ b)) ∧ w.grownBy wr (some g)) (fun _ _ _ i _ => vs.length - (intOf i).toNat)
  case atStart => exact ⟨0, 0, 0, uo, Nat.zero_le _, rfl, rfl, rfl, by decide, by decide, HUL.out, huo, fun _ _ => rfl, by simp [Dig.val], hrow, World.grownBy.refl w _⟩
  case round =>
    obtain ⟨i, pc, br, un, hi, rfl, rfl, rfl, hpc, hbr, hunl, hult, hsame, hval, hrw, hgr⟩ := hrel
    have HV := Lib.hid hval
    have HUN := Lib.hid hunl
    have HSA := Lib.hid hsame
    clear hval hunl hsame
    by_cases hil : i < vs.length
    · obtain ⟨b2, o2, rfl, hb2, hcell2⟩ := hv.rd.u32 (k := i) hil
      have hne : b2 ≠ g := hvg (by rintro rfl; simp at hil) _ rfl
      have hk2 : wr.cell? ⟨b2, o2 + i, none⟩ = _ := (World.cell?_of_block (a := ⟨b2, o2 + i, none⟩) (hgr.block b2 hb2 (fun e => hne (by injection e)))).trans (hcell2 i hil)
      have hy0 := u32s_mem_lt hvs i
      rw [B32_eq] at hy0
      generalize hye : vs[i]?.getD 0 = y at *
      have HY := Lib.hid hye
      clear hye hcell2
      have hkd := hrw.cell (i := a.length + i) (by have := HUN.out; simp; omega)
      have hkf := hrw.frozen (a.length + i)
      rw [win_get a un b i (by have := HUN.out; omega), HSA.out i (Nat.le_refl _)] at hkd
      have hx0 := u32s_mem_lt huo i
      rw [B32_eq] at hx0
      generalize hxe : uo[i]?.getD 0 = x at *
      have HX := Lib.hid hxe
      clear hxe
      obtain ⟨t1, t2, t3, t4, t5, t6⟩ := red_digit y q pc hy0 hq hpc
      have T3 := Lib.hid t3
      have T4 := Lib.hid t4
      clear t3 t4
      go_wp2_with fail
      rw [T4.out]
      refine (sub32_any _ _ _ _ (by omega) (by omega) (by omega) (by omega) (by omega) (by omega)).mono ?_
      rintro e w' ⟨rfl, rfl⟩
      obtain ⟨d, br', ed, eb, est, hdB, hb'⟩ := sub_digit x ((pc + y * q) % B32) br hx0 t6 hbr
      have EB := Lib.hid eb
      have EST := Lib.hid est
      rw [ed]
      clear ed est
      rw [EB.out]
      clear eb
      go_wp2
      go_roundw
      case rel =>
        rw [T3.out]
        refine ⟨i + 1, (pc + y * q) / B32, br', un.set i d, by omega, by go_num, rfl, rfl, t5, hb', by rw [List.length_set]; exact HUN.out, Dig.set_lt hult hdB, fun k hk => ?_, ?_, ?_, only_set hgr _ _⟩
        · rw [List.getElem?_set_ne (by omega)]; exact HSA.out k (by omega)
        · exact Dig.red_step hil (by have := HUL.out; omega) (by have := HUN.out; omega) HY.out.symm HX.out.symm EST.out.symm HV.out
        · rw [← win_set a un b i d (by have := HUN.out; omega)]; exact hrw.set_ _ _
      case measure => simp [intOf]; omega
    · have hie : i = vs.length := by omega
      subst hie
      rw [List.take_of_length_le (Nat.le_refl _)] at HV
      have hkd := hrw.cell (i := a.length + vs.length) (by have := HUN.out; simp; omega)
      have hkf := hrw.frozen (a.length + vs.length)
      rw [win_get a un b vs.length (by have := HUN.out; omega), HSA.out vs.length (Nat.le_refl _)] at hkd
      have hx0 := u32s_mem_lt huo vs.length
      rw [B32_eq] at hx0
      generalize hxe : uo[vs.length]?.getD 0 = x at *
      have HX := Lib.hid hxe
      clear hxe
      go_wp2_with fail
      refine (sub32_any _ _ _ _ (by omega) (by omega) (by omega) (by omega) (by omega) (by omega)).mono ?_
      rintro e w' ⟨rfl, rfl⟩
      obtain ⟨d, br', ed, eb, est, hdB, hb'⟩ := sub_digit x pc br hx0 hpc hbr
      have HT := Lib.hid (Dig.red_top (B := B32) (q := q) (V := Dig.val B32 vs) HUL.out.symm (by have := HUN.out; omega) (HUN.out.trans HUL.out.symm) HX.out.symm est.symm HV.out)
      rw [ed, eb]
      clear ed est eb HV
      have hrw2 : Row (wr.setCell ⟨g, a.length + vs.length, none⟩ (.int .u32 (d : Int))) g (a ++ (un.set vs.length d ++ b)) := by
        rw [← win_set a un b vs.length d (by have := HUN.out; omega)]; exact hrw.set_ _ _
      have hgr2 := only_set hgr (a.length + vs.length) (.int .u32 (d : Int))
      have hlt2 : ∀ e ∈ un.set vs.length d, e < B32 := Dig.set_lt hult hdB
      have hln2 : (un.set vs.length d).length = vs.length + 1 := by rw [List.length_set]; exact HUN.out
      have RW2 := Lib.hid hrw2
      have GR2 := Lib.hid hgr2
      have LT2 := Lib.hid hlt2
      have LN2 := Lib.hid hln2
      clear hrw2 hgr2 hlt2 hln2 HUN HSA hult
      generalize un.set vs.length d = un2 at *
      have hbc : br' = 0 ∨ br' = 1 := by omega
      rcases hbc with rfl | rfl
      · obtain ⟨r1, r2⟩ := Dig.red_none HVV.out (by have := HT.out; rw [Nat.mul_zero, Nat.add_zero] at this; exact this) HQ1.out
        have R1 := Lib.hid r1
        have R2 := Lib.hid r2
        clear r1 r2
        go_wp2
        go_ret
        exact ⟨by rw [← R1.out]; rfl, un2, RW2.out, LN2.out, LT2.out, R2.out, GR2.out⟩
      · clear hrw hgr HX
        rw [Int.natCast_one]
        go_wp2
        clear hkd hkf
        generalize wr.setCell ⟨g, a.length + vs.length, none⟩ (.int .u32 (d : Int)) = w2 at *
        go_loopw [11, 12, 64] (fun ct _ it wr => ∃ (i cr : Nat) (un : List Nat), i ≤ vs.length ∧ it = .int .i64 i ∧ ct = .int .u32 cr ∧ cr ≤ 1 ∧ un.length = vs.length + 1 ∧ (∀ d ∈ un, d < B32) ∧ (∀ k, i ≤ k → un[k]?.getD 0 = un2[k]?.getD 0) ∧
          Dig.val B32 (un.take i) + B32 ^ i * cr = Dig.val B32 (un2.take i) + Dig.val B32 (vs.take i) ∧ Row wr g (a ++ (un ++ b)) ∧ w.grownBy wr (some g)) (fun _ _ i _ => vs.length - (intOf i).toNat)
        case atStart => exact ⟨0, 0, un2, Nat.zero_le _, rfl, rfl, by decide, LN2.out, LT2.out, fun _ _ => rfl, by simp [Dig.val], RW2.out, GR2.out⟩
        case round =>
          obtain ⟨i, cr, un, hi, rfl, rfl, hcr, hunl, hult, hsame, hval, hrw, hgr⟩ := hrel
          have HV := Lib.hid hval
          have HUN := Lib.hid hunl
          have HSA := Lib.hid hsame
          clear hval hunl hsame
          by_cases hil : i < vs.length
          · obtain ⟨b2, o2, rfl, hb2, hcell2⟩ := hv.rd.u32 (k := i) hil
            have hne : b2 ≠ g := hvg (by rintro rfl; simp at hil) _ rfl
            have hk2 : wr.cell? ⟨b2, o2 + i, none⟩ = _ := (World.cell?_of_block (a := ⟨b2, o2 + i, none⟩) (hgr.block b2 hb2 (fun e => hne (by injection e)))).trans (hcell2 i hil)
            have hy0 := u32s_mem_lt hvs i
            rw [B32_eq] at hy0
            generalize hye : vs[i]?.getD 0 = y at *
            have HY := Lib.hid hye
            clear hye hcell2
            have hkd := hrw.cell (i := a.length + i) (by have := HUN.out; simp; omega)
            have hkf := hrw.frozen (a.length + i)
            rw [win_get a un b i (by have := HUN.out; omega), HSA.out i (Nat.le_refl _)] at hkd
            have hx0 := u32s_mem_lt LT2.out i
            rw [B32_eq] at hx0
            generalize hxe : un2[i]?.getD 0 = x at *
            have HX := Lib.hid hxe
            clear hxe
            obtain ⟨d2, cr', ed, eb, est, hdB, hb'⟩ := add_digit x y cr hx0 hy0 hcr
            have EST := Lib.hid est
            have ED := Lib.hid ed
            have EB := Lib.hid eb
            clear est ed eb
            have hi1 : (i : Int) < (vs.length : Int) + 1 := by omega
            have hi2 : (i : Int) < (vs.length : Int) := by omega
            go_wp2
            go_region_with ((go_at_call 107; refine (add32_any _ _ _ _ (by omega) (by omega) (by omega) (by omega) (by omega) (by omega)).mono ?_; rintro e w' ⟨rfl, rfl⟩))
            all_goals
              go_wp2
              go_roundw
              case rel =>
                rw [ED.out, EB.out]
                refine ⟨i + 1, cr', un.set i d2, by omega, by go_num, rfl, hb', by rw [List.length_set]; exact HUN.out, Dig.set_lt hult hdB, fun k hk => ?_, ?_, ?_, only_set (g := g) (w := wr.drew) ⟨hgr.os, hgr.tape, hgr.output, hgr.size, hgr.block⟩ _ _⟩
                · rw [List.getElem?_set_ne (by omega)]; exact HSA.out k (by omega)
                · exact back_step hil (by have := LN2.out; omega) (by have := HUN.out; omega) HY.out.symm HX.out.symm EST.out HV.out
                · rw [← win_set a un b i d2 (by have := HUN.out; omega)]; exact (hrw.drewN 1).set_ _ _
              case measure => simp [intOf]; omega
          · have hie : i = vs.length := by omega
            subst hie
            rw [List.take_of_length_le (Nat.le_refl _)] at HV
            have hkd := hrw.cell (i := a.length + vs.length) (by have := HUN.out; simp; omega)
            have hkf := hrw.frozen (a.length + vs.length)
            rw [win_get a un b vs.length (by have := HUN.out; omega), HSA.out vs.length (Nat.le_refl _)] at hkd
            have hx0 := u32s_mem_lt LT2.out vs.length
            rw [B32_eq] at hx0
            generalize hxe : un2[vs.length]?.getD 0 = x at *
            have HX := Lib.hid hxe
            clear hxe
            obtain ⟨d2, cr', ed, eb, est, hdB, hb'⟩ := add_digit x 0 cr hx0 (by omega) hcr
            rw [Int.natCast_zero, Int.add_zero] at ed
            rw [Nat.add_zero] at est
            have HT2 := Lib.hid (back_top (B := B32) (V := Dig.val B32 vs) LN2.out.symm (by have := HUN.out; omega) (HUN.out.trans LN2.out.symm) HX.out.symm est HV.out)
            have ED := Lib.hid ed
            have hlt3 : ∀ e ∈ un.set vs.length d2, e < B32 := Dig.set_lt hult hdB
            have hln3 : (un.set vs.length d2).length = vs.length + 1 := by rw [List.length_set]; exact HUN.out
            have hU3 := Dig.val_lt B32_pos hlt3
            rw [hln3] at hU3
            have hU2 := Dig.val_lt B32_pos LT2.out
            rw [LN2.out] at hU2
            have hbk := Dig.red_back HVV.out hU2 hU3 (by have := HT.out; rw [Nat.mul_one] at this; exact this) HT2.out hb' HQ2.out
            have HBK := Lib.hid hbk
            have hq0 : 1 ≤ q := hbk.1
            have hrw3 : Row (wr.setCell ⟨g, a.length + vs.length, none⟩ (.int .u32 (d2 : Int))) g (a ++ (un.set vs.length d2 ++ b)) := by
              rw [← win_set a un b vs.length d2 (by have := HUN.out; omega)]; exact hrw.set_ _ _
            have RW3 := Lib.hid hrw3
            have LT3 := Lib.hid hlt3
            have LN3 := Lib.hid hln3
            have GR3 := Lib.hid (only_set hgr (a.length + vs.length) (.int .u32 (d2 : Int)))
            clear ed eb est hbk hU2 hU3 hlt3 hln3 hrw3 HT2 HV
            have hvl1 : (vs.length : Int) < (vs.length : Int) + 1 := by omega
            go_wp2
            go_ret
            rw [ED.out]
            have hqe : ((q : Int) - 1) = ((q - 1 : Nat) : Int) := by omega
            exact ⟨by rw [← HBK.out.2.1, ← hqe]; rfl, _, RW3.out, LN3.out, LT3.out, HBK.out.2.2, GR3.out⟩
end Go.Proofs.YtjmkcckbbgpkeaaGreatDoor


namespace Go.Proofs.YtjmkcckbbgpkeaaGreatDoor
open Go.RowKit
theorem bitLen_aux : ∀ (f x : Nat), x < 2 ^ f → x < 2 ^ Lib.bitLenAux f x ∧ (x ≠ 0 → 2 ^ Lib.bitLenAux f x ≤ 2 * x)
  | 0, x, h => by
    have : x = 0 := by simpa using h
    subst this
    exact ⟨by decide, fun h => absurd rfl h⟩
  | f + 1, x, h => by
    unfold Lib.bitLenAux
    split
    · rename_i e; subst e; exact ⟨by decide, fun h => absurd rfl h⟩
    · rename_i hx
      have ih := bitLen_aux f (x / 2) (by rw [Nat.pow_succ] at h; omega)
      rw [Nat.add_comm, Nat.pow_succ]
      refine ⟨by omega, fun _ => ?_⟩
      by_cases h2 : x / 2 = 0
      · have : Lib.bitLenAux f (x / 2) = 0 := by
          rw [h2]
          cases f with
          | zero => rfl
          | succ f => simp [Lib.bitLenAux]
        rw [this]; omega
      · have := ih.2 h2
        omega
/-- The shift that sets a digit's highest bit. -/
theorem lead_shift (t : Nat) (h0 : 0 < t) (h1 : t < 4294967296) : ∃ s : Nat, s < 32 ∧ (32 - (Lib.bitLen t : Int)) = (s : Int) ∧ (t + 1) * 2 ^ s ≤ B32 ∧ B32 ≤ 2 * (t * 2 ^ s) := by
  obtain ⟨a1, a2⟩ := bitLen_aux 64 t (by omega)
  change t < 2 ^ Lib.bitLen t at a1
  change t ≠ 0 → 2 ^ Lib.bitLen t ≤ 2 * t at a2
  have a3 := a2 (by omega)
  have hl : Lib.bitLen t ≤ 32 := by
    rcases Nat.lt_or_ge 32 (Lib.bitLen t) with h | h
    · have := Nat.pow_le_pow_right (n := 2) (by decide) (show 33 ≤ Lib.bitLen t from h)
      have e : (2 : Nat) ^ 33 = 8589934592 := by decide
      omega
    · exact h
  have hl1 : 1 ≤ Lib.bitLen t := by
    rcases Nat.eq_zero_or_pos (Lib.bitLen t) with h | h
    · rw [h] at a1; omega
    · exact h
  generalize Lib.bitLen t = l at *
  have e : 2 ^ l * 2 ^ (32 - l) = B32 := by rw [← Nat.pow_add, Nat.add_sub_cancel' hl]; rfl
  refine ⟨32 - l, by omega, by omega, ?_, ?_⟩
  · rw [← e]; exact Nat.mul_le_mul_right _ a1
  · rw [← e, ← Nat.mul_assoc]; exact Nat.mul_le_mul_right _ a3
/-- The division under way. -/
structure DivSt (w w' : World) (gu gv gq : Nat) (vs : List Nat) (nq A k : Nat) (du dq : List Nat) : Prop where
  rowu : Row w' gu du
  rowq : Row w' gq dq
  rowv : Row w' gv vs
  ulen : du.length = nq + vs.length
  qlen : dq.length = nq
  ult : ∀ d ∈ du, d < B32
  qlt : ∀ d ∈ dq, d < B32
  kle : k ≤ nq
  val : A = Dig.val B32 (dq.drop k) * B32 ^ k * Dig.val B32 vs + Dig.val B32 du
  low : Dig.val B32 (du.drop k) < Dig.val B32 vs
  r4 : Blk w' w.heap.size 36 #[.slice none 0 0]
  r5 : Blk w' (w.heap.size + 1) 36 #[.slice none 0 0]
  ext : Ext w w'
set_option maxRecDepth 100000 in
set_option maxHeartbeats 8000000 in
theorem divideLong_any (A1 A2 : Option Addr) (n1 c1 n2 c2 a b : Nat) (w : World) (h1 : NatR w A1 n1 c1 a) (h2 : NatR w A2 n2 c2 b) (hn1 : n1 ≤ 1073741824) (hn2 : 2 ≤ n2) (hab : b ≤ a) :
    Calls Tryz.prog 110 #[.slice A1 n1 c1, .slice A2 n2 c2] w fun e w' => ∃ (A : Option Addr) (n c : Nat) (A' : Option Addr) (n' c' : Nat), e = .returned (.tuple #[.agg #[.slice A n c], .agg #[.slice A' n' c']]) ∧ NatR w' A n c (a / b) ∧ NatR w' A' n' c' (a % b) ∧ Ext w w' := by
  have hnn := NatR.len_le h2 h1 hab
  obtain ⟨xs, rfl, hc1, hcx, hvx, hr1⟩ := h1
  obtain ⟨ys, rfl, hc2, hcy, hvy, hr2⟩ := h2
  obtain ⟨n2, hn2e⟩ : ∃ n2, ys.length = n2 + 1 := ⟨ys.length - 1, by omega⟩
  obtain ⟨mq, hnq⟩ : ∃ mq, xs.length + 1 = mq + ys.length := ⟨xs.length + 1 - ys.length, by omega⟩
  have hnqb : mq ≤ 1073741825 := by omega
  obtain ⟨b2, o2, rfl, hb2, hcell2⟩ := hr2.rd.u32 (k := n2) (by omega)
  have hct := hcell2 n2 (by omega)
  have ht1 := u32s_mem_lt hcy.lt n2
  rw [B32_eq] at ht1
  have ht0 : 0 < ys[n2]?.getD 0 := by
    have := hcy.top
    rw [List.getLast?_eq_getElem?, hn2e, Nat.add_sub_cancel, List.getElem?_eq_getElem (by omega)] at this
    rw [List.getElem?_eq_getElem (by omega)]
    simp at this ⊢
    omega
  obtain ⟨s, hs, hse, hs1, hs2⟩ := lead_shift (ys[n2]?.getD 0) ht0 ht1
  obtain ⟨hm1, hm2⟩ := Dig.norm B32_pos hcy.lt hn2e hs1 hs2
  have hpow : 2 ^ s ≤ 2147483648 := Nat.pow_le_pow_right (n := 2) (by decide) (show s ≤ 31 by omega)
  have hmk := run_make_row' (P := Tryz.prog) 34 120 (.int .u32 0) 4 Tryz.underlying34 Tryz.info167 rfl .i64 .i64 mq (by omega) (by omega)
  rw [show ((mq : Nat) : Int) = (xs.length : Int) - ys.length + 1 by omega] at hmk
  have hcall1 : ∀ W, Ext w W → _ := fun W hW => shl_any A1 c1 s (xs.length + 1) xs W hc1 hcx.lt (hr1.keep hW) hn1 hs (.inr rfl)
  have hcall2 : ∀ W, Ext w W → _ := fun W hW => shl_any (some ⟨b2, o2, none⟩) c2 s ys.length ys W hc2 hcy.lt (hr2.keep hW) (by omega) hs (.inl rfl)
  simp only [Int.natCast_add, Int.natCast_one] at hcall1
  have C1 := Lib.hid (hcall1)
  have C2 := Lib.hid (hcall2)
  have HSE := Lib.hid (hse)
  have HVX := Lib.hid (hvx)
  have HVY := Lib.hid (hvy)
  have HM1 := Lib.hid (hm1)
  have HM2 := Lib.hid (hm2)
  have HPOW := Lib.hid (hpow)
  have HN2 := Lib.hid (hn2e)
  have HNQ := Lib.hid (hnq)
  have XLT := Lib.hid hcx.lt
  clear hcall1 hcall2 hse hvx hvy hm1 hm2 hpow hn2e hnq hs1 hs2 hcell2 hr1 hr2 hcx hcy
  generalize hte : ys[n2]?.getD 0 = tp at *
  clear hte
  obtain ⟨b4, b5, e0⟩ := boxes2 w #[.slice none 0 0] 36 #[.slice none 0 0] 36
  have hn2i : ((ys.length : Int) - 1) = (n2 : Int) := by have := HN2.out; omega
  have hct2 : ((w.alloc (.cells #[.slice none 0 0] 36)).alloc (.cells #[.slice none 0 0] 36)).cell? ⟨b2, o2 + n2, none⟩ = some (.int .u32 (tp : Int)) := (e0.cell (p := ⟨b2, o2 + n2, none⟩) hb2).trans hct
  have hn2l : (n2 : Int) < (ys.length : Int) := by omega
  clear hct
  go_enter Tryz.func110, Tryz.ntmps110
  go_wp2_with fail
  refine (Tryz.bits_LeadingZeros32 _ _ (by omega) (by omega)).mono ?_
  rintro e w' ⟨rfl, rfl⟩
  rw [Int.toNat_natCast, HSE.out]
  clear hct2 hn2i hn2l
  go_wp2_with fail
  refine (C1.out _ e0).mono ?_
  rintro e w1 ⟨gu, us, rfl, rowu, ulen, ult, hgu, hx1, uval⟩
  have hgu0 : gu < w1.heap.size := rowu.lt
  have hguw : w.heap.size + 2 ≤ gu := by have := hgu; simp at this; omega
  have B4 := Lib.hid (b4.keep hx1)
  have B5 := Lib.hid (b5.keep hx1)
  have E1 := Lib.hid (e0.tr hx1)
  have RU := Lib.hid rowu
  have UL := Lib.hid ulen
  have UT := Lib.hid ult
  have UV := Lib.hid uval
  clear b4 b5 e0 hx1 rowu ulen ult uval C1
  go_wp2_with fail
  refine (C2.out _ E1.out).mono ?_
  rintro e w2 ⟨gv, vs, rfl, rowv, vlen, vlt, hgv, hx2, vval⟩
  have B4 := Lib.hid (B4.out.keep hx2)
  have B5 := Lib.hid (B5.out.keep hx2)
  have E2 := Lib.hid (E1.out.tr hx2)
  have RU := Lib.hid (RU.out.keep hx2)
  have RV := Lib.hid rowv
  have VL := Lib.hid vlen
  have VT := Lib.hid vlt
  have VV := Lib.hid vval
  have hgu1 := RU.out.lt
  have hgv1 := rowv.lt
  clear hx2 rowv vlen vlt vval C2 E1
  go_wp2
  generalize ys.length = yn at *
  obtain rfl := VL.out
  have HNN := Lib.hid (show xs.length = mq + n2 by have h1 := HNQ.out; have h2 := HN2.out; omega)
  have hVV : Dig.val B32 vs = b * 2 ^ s := by
    rw [VV.out, HVY.out, Nat.mod_eq_of_lt]
    rw [HN2.out, ← HVY.out]; exact HM1.out
  have hp0 : 0 < 2 ^ s := Nat.pow_pos (by decide)
  have haX : a < B32 ^ (mq + n2) := by rw [← HVX.out, ← HNN.out]; exact Dig.val_lt B32_pos XLT.out
  have hUU : Dig.val B32 us = a * 2 ^ s := by
    rw [UV.out, HVX.out, Nat.mod_eq_of_lt]
    rw [HNN.out, Nat.pow_succ]
    exact Nat.mul_lt_mul_of_lt_of_le haX (Nat.le_trans HPOW.out (by decide)) B32_pos
  have hlow : Dig.val B32 (us.drop mq) < Dig.val B32 vs := Dig.low_start B32_pos (by rw [UL.out]; have := HNQ.out; omega) hUU haX (by rw [hVV, ← HVY.out]; exact HM2.out) (by have := HPOW.out; rw [B32_eq]; omega) hp0
  have DS0 := Lib.hid (show DivSt w (w2.alloc (.cells (madeCells #[.int .u32 0] mq) 120)) gu gv w2.heap.size vs mq (a * 2 ^ s) mq us (List.replicate mq 0) from
    ⟨RU.out.alloc _, Row.made _ _ rfl, RV.out.alloc _, by rw [UL.out]; exact HNQ.out, by simp, UT.out, fun d hd => by have := List.eq_of_mem_replicate hd; subst this; exact B32_pos, Nat.le_refl _,
      by rw [List.drop_of_length_le (by simp), Dig.val_nil, Nat.zero_mul, Nat.zero_mul, Nat.zero_add]; exact hUU.symm, hlow, B4.out.alloc _, B5.out.alloc _, E2.out.alloc _⟩)
  have hne : gu ≠ gv := by omega
  have hgq : gu ≠ w2.heap.size ∧ gv ≠ w2.heap.size := by omega
  have hgqw : w.heap.size + 2 ≤ w2.heap.size := by omega
  have hgvw : w.heap.size + 2 ≤ gv := by omega
  have hvl30 : vs.length ≤ 1073741824 := by omega
  have hAV := Lib.hid (show a * 2 ^ s / Dig.val B32 vs = a / b ∧ a * 2 ^ s % Dig.val B32 vs = a % b * 2 ^ s by
    rw [hVV, Nat.mul_div_mul_right _ _ hp0, Nat.mul_mod_mul_right]; exact ⟨rfl, rfl⟩)
  have hnql : mq + vs.length ≤ 1073741825 := by have := HNQ.out; omega
  have VNORM := Lib.hid (show B32 ^ vs.length ≤ 2 * Dig.val B32 vs by rw [hVV, HN2.out, ← HVY.out]; exact HM2.out)
  clear hmk B4 B5 RU RV UL UT UV E2 hUU haX hlow hgu1 hgv1 VL hVV VV HM1 HM2 HVX HVY HPOW XLT HSE HNN hgu hgu0 hgv hc1 hc2 hn1 hnn hb2 ht0 ht1 hab HN2
  generalize a * 2 ^ s = AA at *
  generalize hgen : w2.heap.size = gq at *
  clear hgen
  generalize w2.alloc (.cells (madeCells #[.int .u32 0] mq) 120) = w3 at *
  go_loopg [11, 12, 13, 14] mq (fun k jt _ _ _ wr => ∃ (m : Nat) (du dq : List Nat), m = k ∧ jt = .int .i64 (m - 1) ∧ DivSt w wr gu gv gq vs mq AA m du dq)
  case atStart => exact ⟨mq, us, _, rfl, rfl, DS0.out⟩
  case round =>
    clear DS0
    obtain ⟨k, du, dq, rfl, rfl, hds⟩ := hrel
    have hkl := hds.kle
    by_cases hk0 : 0 < k
    · obtain ⟨j, rfl⟩ : ∃ j, k = j + 1 := ⟨k - 1, by omega⟩
      rw [show (((j + 1 : Nat) : Int) - 1) = (j : Int) by omega]
      obtain ⟨n, hn⟩ : ∃ n, vs.length = n + 2 := ⟨vs.length - 2, by omega⟩
      have hul := hds.ulen
      have hql := hds.qlen
      have cu0 := hds.rowu.cell (i := j + vs.length) (by omega)
      have cu1 := hds.rowu.cell (i := j + vs.length - 1) (by omega)
      have cu2 := hds.rowu.cell (i := j + vs.length - 2) (by omega)
      have cv1 := hds.rowv.cell (i := vs.length - 1) (by omega)
      have cv2 := hds.rowv.cell (i := vs.length - 2) (by omega)
      have lu0 := u32s_mem_lt hds.ult (j + vs.length)
      have lu1 := u32s_mem_lt hds.ult (j + vs.length - 1)
      have lu2 := u32s_mem_lt hds.ult (j + vs.length - 2)
      have lv1 := u32s_mem_lt VT.out (vs.length - 1)
      have lv2 := u32s_mem_lt VT.out (vs.length - 2)
      obtain ⟨wz, ww, q1, q2, htop, hv1, hV0⟩ := Dig.digit_facts (j := j) (by decide) hn2 hds.ult VT.out (by omega) hds.low VNORM.out
      have hG : Dig.guess B32 (du[j + vs.length]?.getD 0) (du[j + vs.length - 1]?.getD 0) (du[j + vs.length - 2]?.getD 0) (vs[vs.length - 1]?.getD 0) (vs[vs.length - 2]?.getD 0) ≤ 4294967295 := Nat.min_le_left _ _
      generalize hgG : Dig.guess B32 (du[j + vs.length]?.getD 0) (du[j + vs.length - 1]?.getD 0) (du[j + vs.length - 2]?.getD 0) (vs[vs.length - 1]?.getD 0) (vs[vs.length - 2]?.getD 0) = G at *
      generalize du[j + vs.length]?.getD 0 = u0 at *
      generalize du[j + vs.length - 1]?.getD 0 = u1 at *
      generalize du[j + vs.length - 2]?.getD 0 = u2 at *
      generalize vs[vs.length - 1]?.getD 0 = v1 at *
      generalize vs[vs.length - 2]?.getD 0 = v2 at *
      have GG := Lib.hid hgG
      have WZ := Lib.hid wz
      have WW := Lib.hid ww
      have Q1 := Lib.hid q1
      have Q2 := Lib.hid q2
      have V0 := Lib.hid hV0
      have DS := Lib.hid hds
      have HUL := Lib.hid hul
      have HQL := Lib.hid hql
      rw [B32_eq] at lu0 lu1 lu2 lv1 lv2 hv1
      clear hgG wz ww q1 q2 hV0 hds hul hql n hn
      have hv1' : 2147483648 ≤ v1 := by omega
      have hor := or_low u0 u1 (by omega) (by omega) (by omega) (by omega)
      have j1 : ((j : Int) + vs.length).toNat = j + vs.length := by omega
      have j2 : ((j : Int) + vs.length - 1).toNat = j + vs.length - 1 := by omega
      have j3 : (j : Int) + vs.length < (xs.length : Int) + 1 := by have := HNQ.out; omega
      have j4 : IntKind.i64.wrap ((j : Int) + vs.length) = (j : Int) + vs.length := IntWalk.i64_in _ (by omega)
      have j5 : IntKind.i64.wrap ((j : Int) + vs.length - 1) = (j : Int) + vs.length - 1 := IntWalk.i64_in _ (by omega)
      have j6 : (0 : Int) ≤ (j : Int) + vs.length := by omega
      have j7 : (0 : Int) ≤ (j : Int) + vs.length - 1 := by omega
      have j8 : (j : Int) + vs.length - 1 < (xs.length : Int) + 1 := by omega
      have j9 : (1 : Int) ≤ (j : Int) + vs.length := by omega
      go_wp2
      go_quiet (fail)
      go_wp2
      clear hor j1 j2 j3 j4 j5 j6 j7 j8 j9 cu0 cu1
      rw [show (u0 : Int) * 4294967296 + u1 = ((u0 * 4294967296 + u1 : Nat) : Int) by omega]
      have hz1 : u0 * 4294967296 + u1 < 18446744073709551616 := by omega
      generalize hzz : u0 * 4294967296 + u1 = z at *
      have HZZ := Lib.hid hzz
      clear hzz
      have hzd : z / v1 ≤ z := Nat.div_le_self _ _
      have hzm : z % v1 < v1 := Nat.mod_lt _ (by omega)
      have ht : (z : Int).tdiv (v1 : Int) = ((z / v1 : Nat) : Int) := by rw [Int.tdiv_eq_ediv_of_nonneg (by omega), Int.natCast_ediv]
      have hm : (z : Int).tmod (v1 : Int) = ((z % v1 : Nat) : Int) := by rw [Int.tmod_eq_emod_of_nonneg (by omega), Int.natCast_emod]
      have hyn : ((v1 : Int) != 0) = true := bne_iff_ne.2 (by omega)
      have hdm := Nat.div_add_mod z v1
      have HDM := Lib.hid hdm
      clear hdm
      have HDIV := Lib.hid (show z / v1 = z / v1 from rfl)
      generalize hQQ : z / v1 = qq at *
      generalize hRR : z % v1 = rr at *
      have HQQ := Lib.hid hQQ
      clear hQQ hRR
      have l1 : ((vs.length : Int) - 1).toNat = vs.length - 1 := by omega
      have l2 : (0 : Int) ≤ (vs.length : Int) - 1 := by omega
      have l3 : (vs.length : Int) - 1 < (vs.length : Int) := by omega
      have l4 : IntKind.i64.wrap ((vs.length : Int) - 1) = (vs.length : Int) - 1 := IntWalk.i64_in _ (by omega)
      have l5 : IntKind.u64.wrap (qq : Int) = (qq : Int) := IntWalk.u64_in _ (by omega)
      have hqq : qq < 8589934592 := by
        rw [← HQQ.out, Nat.div_lt_iff_lt_mul (by omega)]
        have : 8589934592 * 2147483648 ≤ 8589934592 * v1 := Nat.mul_le_mul_left _ hv1'
        omega
      have hG0 : G ≤ qq := by
        rw [← GG.out, ← HQQ.out, ← HZZ.out]
        have := Dig.guess_start (B := B32) (u0 := u0) (u1 := u1) (u2 := u2) (v1 := v1) (v2 := v2) (by omega) (by rw [B32_eq]; exact lu2)
        rw [B32_eq] at this ⊢
        exact this
      go_quiet (fail)
      go_upto_block 2 with fail
      clear hzd ht hm hyn l5 hz1 l4 l1 l2 l3
      go_cut [13, 14] (fun g _ wx => g = .int .u64 G ∧ ∃ m, wx = wr.drewN m)
      case first =>
        have hvB : 0 < v1 * B32 + v2 := by have := Nat.mul_pos (show 0 < v1 by omega) B32_pos; omega
        have VB := Lib.hid hvB
        clear hvB
        go_wp2
        go_loopg [13, 14] qq (fun k gt rt wi => ∃ g r : Nat, g = k ∧ gt = .int .u64 g ∧ rt = .int .u64 r ∧ g * v1 + r = z ∧ G ≤ g ∧ r < 4294967296 ∧ g < 8589934592 ∧ ∃ m, wi = wr.drewN m)
        case atStart => exact ⟨qq, rr, rfl, rfl, rfl, by rw [Nat.mul_comm]; exact HDM.out, hG0, by omega, hqq, _, rfl⟩
        case round =>
          obtain ⟨g, r, rfl, rfl, rfl, hsum, hGg, hr, hg, m, rfl⟩ := hrel
          have HSUM := Lib.hid (show g * v1 + r = u0 * B32 + u1 by rw [hsum, ← HZZ.out, B32_eq])
          clear hsum
          go_upto_region 11 with fail
          go_cut [104] (fun b wx => b = .bool (decide (4294967296 ≤ g ∨ r * 4294967296 + u2 < g * v2)) ∧ ∃ m, wx = wr.drewN m)
          case first =>
            by_cases hgB : 4294967296 ≤ g
            · have hgb : decide ((4294967296 : Int) ≤ (g : Int)) = true := by simp; omega
              go_quiet (fail)
              go_wp2
              go_meet
              exact ⟨by simp [hgB], _, World.drewN_drewN _ _ _⟩
            · have hgb : decide ((4294967296 : Int) ≤ (g : Int)) = false := by simp; omega
              obtain ⟨p1, p2, _⟩ := red_digit g v2 0 (by omega) lv2 (by decide)
              have p3 : IntKind.u64.wrap ((g : Int) * v2) = (g : Int) * v2 := IntWalk.u64_in _ (by omega)
              have p4 : IntKind.u64.wrap ((r : Int) * 4294967296) = (r : Int) * 4294967296 := IntWalk.u64_in _ (by omega)
              have hor := or_low r u2 (by omega) (by omega) (by omega) (by omega)
              have k1 : ((j : Int) + vs.length - 2).toNat = j + vs.length - 2 := by omega
              have k2 : (0 : Int) ≤ (j : Int) + vs.length - 2 := by omega
              have k3 : (j : Int) + vs.length - 2 < (xs.length : Int) + 1 := by have := HNQ.out; omega
              have k4 : IntKind.i64.wrap ((j : Int) + vs.length - 2) = (j : Int) + vs.length - 2 := IntWalk.i64_in _ (by omega)
              have k5 : IntKind.i64.wrap ((j : Int) + vs.length) = (j : Int) + vs.length := IntWalk.i64_in _ (by omega)
              have k6 : ((vs.length : Int) - 2).toNat = vs.length - 2 := by omega
              have k7 : (0 : Int) ≤ (vs.length : Int) - 2 := by omega
              have k8 : (vs.length : Int) - 2 < (vs.length : Int) := by omega
              have k9 : IntKind.i64.wrap ((vs.length : Int) - 2) = (vs.length : Int) - 2 := IntWalk.i64_in _ (by omega)
              have k10 : (2 : Int) ≤ (vs.length : Int) := by omega
              have k11 : (2 : Int) ≤ (j : Int) + vs.length := by omega
              go_quiet (fail)
              go_wp2
              go_meet
              refine ⟨?_, _, World.drewN_drewN _ _ _⟩
              congr 1
              rw [decide_eq_decide]
              have e : (g : Int) * v2 = ((g * v2 : Nat) : Int) := by rw [Int.natCast_mul]
              rw [e]
              omega
          case rest =>
            obtain ⟨rfl, m2, rfl⟩ := hcut
            by_cases hc : 4294967296 ≤ g ∨ r * 4294967296 + u2 < g * v2
            · have hdc : decide (4294967296 ≤ g ∨ r * 4294967296 + u2 < g * v2) = true := decide_eq_true hc
              have hmore := Dig.guess_more (u2 := u2) (v2 := v2) B32_pos VB.out HSUM.out (by rw [B32_eq]; exact hc)
              rw [GG.out] at hmore
              have HS2 := Lib.hid (show (g - 1) * v1 + (r + v1) = u0 * B32 + u1 by
                rw [← HSUM.out]
                have : g * v1 = (g - 1) * v1 + v1 := by
                  have e : g = (g - 1) + 1 := by omega
                  rw [e, Nat.add_mul, Nat.one_mul, ← e]
                omega)
              rw [hdc]
              clear hc hdc HSUM
              have hg1 : 1 ≤ g := by omega
              by_cases hb : 4294967296 ≤ r + v1
              · have hbr := Dig.guess_break (u2 := u2) VB.out HS2.out htop (by rw [B32_eq]; exact lu1) (by rw [B32_eq]; exact lv2) (by rw [B32_eq]; exact hb) (by rw [GG.out]; omega)
                rw [GG.out] at hbr
                have HBR := Lib.hid hbr.2
                have hbb : decide ((4294967296 : Int) ≤ (r : Int) + v1) = true := by simp; omega
                clear hbr
                have HB := Lib.hid hb
                clear hb
                go_wp2
                go_meet
                refine ⟨?_, _, rfl⟩
                rw [← HBR.out, show ((g - 1 : Nat) : Int) = (g : Int) - 1 by omega]
              · have hbb : decide ((4294967296 : Int) ≤ (r : Int) + v1) = false := by simp; omega
                have HB := Lib.hid hb
                clear hb
                go_wp2
                have hb := HB.out
                go_roundg (g - 1)
                case measure => omega
                case rel => exact ⟨g - 1, r + v1, rfl, by rw [show ((g - 1 : Nat) : Int) = (g : Int) - 1 by omega], rfl, by rw [HS2.out, ← HZZ.out, B32_eq], by omega, by omega, by omega, _, rfl⟩
            · have hdc : decide (4294967296 ≤ g ∨ r * 4294967296 + u2 < g * v2) = false := decide_eq_false hc
              have hdn := Dig.guess_done (u2 := u2) (v2 := v2) VB.out HSUM.out (by rw [B32_eq]; omega) (by rw [B32_eq]; omega) (by rw [GG.out]; exact hGg)
              rw [GG.out] at hdn
              have HDN := Lib.hid hdn
              rw [hdc]
              clear hc hdc hdn
              go_wp2
              go_meet
              exact ⟨by rw [HDN.out], _, rfl⟩
      case rest =>
        obtain ⟨rfl, m, rfl⟩ := hcut
        have hcall := reduce_any gu (du.take j) ((du.drop j).take (vs.length + 1)) (du.drop (j + vs.length + 1)) vs (some ⟨gv, 0, none⟩) vs.length G (wr.drewN m) (by rw [← Dig.split3]; exact DS.out.rowu)
          (by rw [List.length_take, List.length_drop]; have := HUL.out; omega) (by rw [List.length_take]; omega) (fun d hd => DS.out.ult d (List.mem_of_mem_drop (List.mem_of_mem_take hd))) VT.out DS.out.rowv.rdT (fun _ ad e => by injection e with e; subst e; exact hne.symm) (Nat.le_refl _) (by omega) (by omega) V0.out Q1.out Q2.out
        rw [show (du.take j).length = j by rw [List.length_take]; have := HUL.out; omega] at hcall
        have HC := Lib.hid hcall
        have hxl : j + vs.length + 1 ≤ xs.length + 1 := by have := HNQ.out; omega
        clear hcall
        go_wp2_with fail
        rw [show j + vs.length + 1 - j = vs.length + 1 by omega]
        refine HC.out.mono ?_
        rintro e w5 ⟨rfl, un, rowu2, unl, unlt, unv, hgr⟩
        have hgr' : wr.grownBy w5 (some gu) := ⟨hgr.os, hgr.tape, hgr.output, hgr.size, hgr.block⟩
        have keepB : ∀ {gg : Nat} {ty : TypeId} {cs : Array Value}, gg ≠ gu → Blk wr gg ty cs → Blk w5 gg ty cs := fun hg hb => (hgr'.block _ hb.lt (fun e => hg (by injection e))).trans hb
        have rq5 : Row w5 gq dq := keepB hgq.1.symm DS.out.rowq
        have cq := rq5.cell (i := j) (by have := HQL.out; omega)
        have fq := rq5.frozen j
        obtain ⟨d1, d2⟩ := Dig.div_step (j := j) (n := vs.length) (dq := dq) rfl (by have := HUL.out; omega) (by have := HQL.out; omega) V0.out DS.out.val WZ.out WW.out unl unv
        have hQlt : Dig.val B32 ((du.drop j).take (vs.length + 1)) / Dig.val B32 vs < B32 := Nat.lt_of_le_of_lt Q1.out (show G < B32 by rw [B32_eq]; omega)
        have hE5 : Ext w w5 := Below.grown DS.out.ext hgr' DS.out.ext.size (fun k hk => by injection hk with hk; omega)
        generalize Dig.val B32 ((du.drop j).take (vs.length + 1)) / Dig.val B32 vs = Q at *
        have DN := Lib.hid (show DivSt w (w5.setCell ⟨gq, j, none⟩ (.int .u32 (Q : Int))) gu gv gq vs mq AA j (du.take j ++ (un ++ du.drop (j + vs.length + 1))) (dq.set j Q) from
          ⟨rowu2.far (p := ⟨gq, j, none⟩) hgq.1 _, rq5.set_ j Q, (keepB hne.symm DS.out.rowv).far (p := ⟨gq, j, none⟩) hgq.2 _,
            by simp only [List.length_append, List.length_take, List.length_drop, unl]; have := HUL.out; omega, by rw [List.length_set]; exact HQL.out,
            fun d hd => by
              rcases List.mem_append.1 hd with h | h
              · exact DS.out.ult d (List.mem_of_mem_take h)
              · rcases List.mem_append.1 h with h | h
                · exact unlt d h
                · exact DS.out.ult d (List.mem_of_mem_drop h),
            Dig.set_lt DS.out.qlt hQlt, by omega, d1, d2, Blk.far (p := ⟨gq, j, none⟩) (keepB (by omega) DS.out.r4) (by simp only; omega) _, Blk.far (p := ⟨gq, j, none⟩) (keepB (by omega) DS.out.r5) (by simp only; omega) _, Ext.set_ hE5 (p := ⟨gq, j, none⟩) (by simp only; omega) _⟩)
        clear rowu2 unl unlt unv hgr hgr' keepB rq5 d1 d2 hQlt hE5 HC
        generalize dq[j]?.getD 0 = qo at *
        go_wp2
        go_roundg j
        case measure => omega
        case rel => exact ⟨j, _, _, rfl, rfl, DN.out⟩
    · have hk : k = 0 := by omega
      subst hk
      have hval := hds.val
      have hlow := hds.low
      rw [List.drop_zero, Nat.pow_zero, Nat.mul_one] at hval
      rw [List.drop_zero] at hlow
      have hV0 : 0 < Dig.val B32 vs := by omega
      have hQd : Dig.val B32 dq = a / b := by
        rw [← hAV.out.1, hval, Nat.add_comm, Nat.add_mul_div_right _ _ hV0, Nat.div_eq_of_lt hlow, Nat.zero_add]
      have hRd : Dig.val B32 du = a % b * 2 ^ s := by
        rw [← hAV.out.2, hval, Nat.add_comm, Nat.add_mul_mod_self_right, Nat.mod_eq_of_lt hlow]
      have hul := hds.ulen
      have hVlt := Dig.val_lt B32_pos VT.out
      have htk : Dig.val B32 (du.take vs.length) = a % b * 2 ^ s := by
        have h1 := Dig.val_split' B32 du vs.length (by omega)
        rcases Nat.eq_zero_or_pos (Dig.val B32 (du.drop vs.length)) with e | e
        · rw [e, Nat.mul_zero, Nat.add_zero] at h1
          rw [← h1]; exact hRd
        · exfalso
          have := Nat.mul_le_mul_left (B32 ^ vs.length) (show 1 ≤ Dig.val B32 (du.drop vs.length) from e)
          omega
      have htl : (du.take vs.length).length = vs.length := by rw [List.length_take]; omega
      have hsr : ∀ W, Ext wr W → _ := fun W hW => shr_any (some ⟨gu, 0, none⟩) vs.length s (du.take vs.length) W (by rw [htl]; exact Nat.le_refl _) (fun d hd => hds.ult d (List.mem_of_mem_take hd)) (by rw [u32s_take]; exact (hds.rowu.rdT.take _).keep hW) (by rw [htl]; omega) hs
      rw [htl] at hsr
      rw [htk, Nat.mul_div_cancel _ hp0] at hsr
      have SR := Lib.hid hsr
      have DS := Lib.hid hds
      have QD := Lib.hid hQd
      have hxl : vs.length ≤ xs.length + 1 := by have := HNQ.out; omega
      have hs1 : (0 : Int) ≤ (vs.length : Int) := by omega
      have hs2 : (vs.length : Int) ≤ (xs.length : Int) + 1 := by omega
      have hb4 := hds.r4
      have hb5 := hds.r5
      clear hval hlow hV0 hQd hRd hVlt htk htl hsr hds hul
      go_wp2
      have hb4 : Blk wr.drew _ _ _ := hb4
      have hb5 : Blk wr.drew _ _ _ := hb5
      have HX4 : Hid (Ext w wr.drew) := DS.out.ext.drewN 1
      have HX0 : Hid (Ext wr wr.drew) := (Ext.refl wr).drewN 1
      have RQ : Hid (Row wr.drew gq dq) := DS.out.rowq
      have tok : True := trivial
      go_region_held3 (fun _ => True) (trivial) (first
        | (go_at_call 78; have _t := tok; refine (trim_any (some ⟨gq, 0, none⟩) mq mq dq _ DS.out.qlen (Nat.le_refl _) (by omega) DS.out.qlt RQ.out.rdT).mono ?_; rintro e w5 ⟨A5, n5, c5, rfl, hR5, hx5⟩; clear tok; have hb4 := hb4.keep hx5; have hb5 := hb5.keep hx5; have HX5 := Lib.hid (HX4.out.tr hx5); have HX1 := Lib.hid (HX0.out.tr hx5))
        | (go_at_call 125; refine (SR.out _ HX1.out).mono ?_; rintro e w6 ⟨g6, ls6, rfl, row6, len6, lt6, hg6, hx6, val6⟩; have hb4 := hb4.keep hx6; have hb5 := hb5.keep hx6; have HX6 := Lib.hid (HX5.out.tr hx6); have hR6 := Lib.hid (hR5.keep hx6); have LEN6 := Lib.hid len6; have VAL6 := Lib.hid val6; clear len6 val6)
        | (go_at_call 78; refine (trim_any (some ⟨g6, 0, none⟩) vs.length vs.length ls6 _ LEN6.out (Nat.le_refl _) (by omega) lt6 row6.rdT).mono ?_; rintro e w7 ⟨A7, n7, c7, rfl, hR7, hx7⟩; have hb4 := hb4.keep hx7; have hb5 := hb5.keep hx7; have HX7 := Lib.hid (HX6.out.tr hx7); have hR8 := Lib.hid (hR6.out.keep hx7); obtain ⟨d2, f2⟩ := hb4.one; obtain ⟨d3, f3⟩ := hb5.one))
      go_wp2
      have e1 : NatR w7 A5 n5 c5 (a / b) := by have := hR8.out; rw [QD.out] at this; exact this
      have e2 : NatR w7 A7 n7 c7 (a % b) := by have := hR7; rw [VAL6.out] at this; exact this
      have hb1 := (hb4.set_ 0 (.slice A5 n5 c5)).far (p := ⟨w.heap.size + 1, 0, none⟩) (by first | (simp; omega) | simp) (.slice A7 n7 c7)
      have hb2 := (hb5.far (p := ⟨w.heap.size, 0, none⟩) (by first | (simp; omega) | simp) (.slice A5 n5 c5))
      refine bodyPost_ret (v := .tuple #[.agg #[.slice A5 n5 c5], .agg #[.slice A7 n7 c7]]) (by simp [results, Tryz.results110, go_sem, hb1.cell, (hb2.set_ 0 _).cell]) rfl
        ⟨_, _, _, _, _, _, rfl, ?_, ?_, ?_⟩
      · exact (e1.set_ (p := ⟨w.heap.size, 0, none⟩) hb4 (by decide) _).set_ (p := ⟨w.heap.size + 1, 0, none⟩) hb2 (by decide) _
      · exact (e2.set_ (p := ⟨w.heap.size, 0, none⟩) hb4 (by decide) _).set_ (p := ⟨w.heap.size + 1, 0, none⟩) hb2 (by decide) _
      · exact ((HX7.out.set_ (by first | (simp; omega) | simp) _).set_ (by first | (simp; omega) | simp) _)
end Go.Proofs.YtjmkcckbbgpkeaaGreatDoor


namespace Go.Proofs.YtjmkcckbbgpkeaaGreatDoor
open Go.RowKit
theorem natUint64_some (A : Option Addr) (n c N : Nat) (w : World) (h : NatR w A n c N) :
    Calls Tryz.prog 109 #[.agg #[.slice A n c]] w fun e w' => ∃ (x : Int) (ok : Bool), e = .returned (.tuple #[.int .u64 x, .bool ok]) ∧ Ext w w' := by
  rcases Nat.lt_or_ge N 18446744073709551616 with hN | hN
  · exact (natUint64_small A n c N w h hN).mono fun e w' ⟨h1, h2⟩ => ⟨_, _, h1, h2⟩
  · exact (natUint64_big A n c N w h hN).mono fun e w' ⟨h1, h2⟩ => ⟨_, _, h1, h2⟩
theorem cell_set_of {w : World} {p q : Addr} {u v : Value} (h : w.cell? p = some v) (hne : p.block ≠ q.block) : (w.setCell q u).cell? p = some v := (World.cell?_setCell_other w q p u (fun e => hne (by rw [e]))).trans h
/-- The quotient's box and the rest, behind divideSmall. -/
def SmallPost (w : World) (a b : Nat) (p r : Value) (wx : World) : Prop :=
  ∃ (A : Option Addr) (n c gx : Nat), p = .pointer (some ⟨gx, 0, none⟩) ∧ r = .int .u32 ((a % b : Nat) : Int) ∧ w.heap.size + 1 + 1 + 1 < gx ∧ Blk wx gx 36 #[.slice A n c] ∧ NatR wx A n c (a / b) ∧ Blk wx (w.heap.size + 1 + 1) 36 #[.slice none 0 0] ∧ Blk wx (w.heap.size + 1 + 1 + 1) 36 #[.slice none 0 0] ∧ Ext w wx
set_option maxRecDepth 100000 in
set_option maxHeartbeats 4000000 in
theorem divMod_big (A1 A2 : Option Addr) (n1 c1 n2 c2 a b : Nat) (w : World) (h1 : NatR w A1 n1 c1 a) (h2 : NatR w A2 n2 c2 b) (hn1 : n1 ≤ 1073741824) (hb0 : 0 < b) (hab : b ≤ a) (ha : 18446744073709551616 ≤ a) :
    Calls Tryz.prog 84 #[.agg #[.slice A1 n1 c1], .agg #[.slice A2 n2 c2]] w (DivPost w (a / b) (a % b)) := by
  have H1 := Lib.hid h1
  have H2 := Lib.hid h2
  have z2 : ((n2 : Int) == 0) = false := by
    have := h2.eq_zero
    exact beq_eq_false_iff_ne.2 (by omega)
  have hn20 : n2 ≠ 0 := by have := h2.eq_zero; omega
  have hq : 0 ≤ cmpI a b := by unfold cmpI; rw [if_neg (by omega)]; split <;> omega
  have HA := Lib.hid ha
  have HAB := Lib.hid hab
  have HB0 := Lib.hid hb0
  clear h1 h2 ha hab hb0
  go_enter Tryz.func84, Tryz.ntmps84
  go_wp2_with fail
  refine (isZero_any A2 n2 c2 _).mono ?_
  rintro e w1 ⟨rfl, hx1⟩
  obtain ⟨hba, hbb, hbr, hbs, e0⟩ := boxes4 w #[.slice A1 n1 c1] 36 #[.slice A2 n2 c2] 36 #[.slice none 0 0] 36 #[.slice none 0 0] 36
  have HX := Lib.hid (e0.tr hx1)
  have hba := hba.keep hx1
  have hbb := hbb.keep hx1
  have hbr := hbr.keep hx1
  have hbs := hbs.keep hx1
  have ca := hba.one.1
  have cb := hbb.one.1
  clear e0 hx1
  go_wp2_with fail
  refine (natCmp_any A1 A2 n1 c1 n2 c2 a b _ (H1.out.keep HX.out) (H2.out.keep HX.out) (by omega)).mono ?_
  rintro e w2 ⟨rfl, hx2⟩
  generalize cmpI a b = q at *
  have hba := hba.keep hx2
  have hbb := hbb.keep hx2
  have hbr := hbr.keep hx2
  have hbs := hbs.keep hx2
  have HX2 := Lib.hid (HX.out.tr hx2)
  have ca := hba.one.1
  have cb := hbb.one.1
  clear hx2 HX
  go_wp2_with fail
  refine (natUint64_big A1 n1 c1 a _ (H1.out.keep HX2.out) HA.out).mono ?_
  rintro e w3 ⟨rfl, hx3⟩
  have hba := hba.keep hx3
  have hbb := hbb.keep hx3
  have hbr := hbr.keep hx3
  have hbs := hbs.keep hx3
  have HX3 := Lib.hid (HX2.out.tr hx3)
  have ca := hba.one.1
  have cb := hbb.one.1
  clear hx3 HX2
  go_wp2_with fail
  refine (natUint64_some A2 n2 c2 b _ (H2.out.keep HX3.out)).mono ?_
  rintro e w4 ⟨x, ok, rfl, hx4⟩
  have hba := hba.keep hx4
  have hbb := hbb.keep hx4
  have hbr := hbr.keep hx4
  have hbs := hbs.keep hx4
  have HX4 := Lib.hid (HX3.out.tr hx4)
  obtain ⟨ca, _⟩ := hba.one
  obtain ⟨cb, _⟩ := hbb.one
  have BR := Lib.hid hbr
  have BS := Lib.hid hbs
  have BA := Lib.hid hba
  have BB := Lib.hid hbb
  clear hx4 HX3 hbr hbs hba hbb
  by_cases hn2 : n2 = 1
  · subst hn2
    have hb1 : ((((1 : Nat) : Int)) == 1) = true := rfl
    obtain ⟨ys, hyl, hyc, hycan, hyv, hyr⟩ := H2.out
    obtain ⟨b2, o2, rfl, hb2, hcell2⟩ := hyr.rd.u32 (k := 0) (by omega)
    have hdig : ys[0]?.getD 0 = b := by
      obtain ⟨y, rfl⟩ : ∃ y, ys = [y] := List.length_eq_one_iff.1 hyl
      rw [← hyv]; simp [Dig.val]
    have hbB : b < 4294967296 := by rw [← hdig, ← B32_eq]; exact u32s_mem_lt hycan.lt 0
    have cy : w4.cell? ⟨b2, o2, none⟩ = some (.int .u32 (b : Int)) := by
      have := (HX4.out.cell (p := ⟨b2, o2 + 0, none⟩) hb2).trans (hcell2 0 (by omega))
      rw [hdig] at this
      exact this
    have hy4 : b2 < w4.heap.size := Nat.lt_of_lt_of_le hb2 HX4.out.size
    clear hyl hyc hycan hyv hyr hcell2 hdig
    go_upto_region 10 with fail
    go_cut [11, 12] (SmallPost w a b)
    case first =>
      have W0 := Lib.hid (show Ext w4 w4.drew from (Ext.refl w4).drewN 1)
      have WA := Lib.hid (show Ext w4 (w4.alloc (.cells #[.slice none 0 0] 36)).drew from ((Ext.refl w4).alloc _).drewN 1)
      have BN := Lib.hid (show Blk (w4.alloc (.cells #[.slice none 0 0] 36)).drew w4.heap.size 36 #[.slice none 0 0] from Blk.new w4 _ _)
      have ca0 := ca
      have cb0 := cb
      have cy0 := cy
      go_region_held3 (fun w' => w'.cell? ⟨w.heap.size, 0, none⟩ = some (.slice A1 n1 c1) ∧ w'.cell? ⟨w.heap.size + 1, 0, none⟩ = some (.slice (some ⟨b2, o2, none⟩) 1 c2) ∧ w'.cell? ⟨b2, o2, none⟩ = some (.int .u32 (b : Int)))
        (first | exact ⟨ca, cb, cy⟩ | exact ⟨cell_alloc_of ca _, cell_alloc_of cb _, cell_alloc_of cy _⟩ | exact ⟨cell_set_of ca (Nat.ne_of_lt BA.out.lt), cell_set_of cb (Nat.ne_of_lt BB.out.lt), cell_set_of cy (Nat.ne_of_lt hy4)⟩)
        (first
          | (go_at_call 73
             refine (divideSmall_any A1 n1 c1 a b _ (by exact H1.out.keep (HX4.out.tr W0.out)) hn1 HB0.out hbB).mono ?_
             rintro e w5 ⟨A5, n5, c5, rfl, hR5, hx5⟩
             have X5 := Lib.hid (W0.out.tr hx5)
             have R5 := Lib.hid hR5
             have ca := (X5.out.cell (p := ⟨w.heap.size, 0, none⟩) BA.out.lt).trans ca
             have cb := (X5.out.cell (p := ⟨w.heap.size + 1, 0, none⟩) BB.out.lt).trans cb
             have cy := (X5.out.cell (p := ⟨b2, o2, none⟩) hy4).trans cy
             have FIN := Lib.hid (show SmallPost w a b (.pointer (some ⟨w5.heap.size, 0, none⟩)) (.int .u32 ((a % b : Nat) : Int)) (w5.alloc (.cells #[.slice A5 n5 c5] 36)) from
               ⟨A5, n5, c5, w5.heap.size, rfl, rfl, (BS.out.keep X5.out).lt, Blk.new _ _ _, R5.out.keep ((Ext.refl _).alloc _), (BR.out.keep X5.out).alloc _, (BS.out.keep X5.out).alloc _, (HX4.out.tr X5.out).alloc _⟩)
             clear hx5 hR5)
          | (go_at_call 73
             refine (divideSmall_any A1 n1 c1 a b _ (by exact H1.out.keep (HX4.out.tr WA.out)) hn1 HB0.out hbB).mono ?_
             rintro e w5 ⟨A5, n5, c5, rfl, hR5, hx5⟩
             have X5 := Lib.hid (WA.out.tr hx5)
             have R5 := Lib.hid hR5
             have BN5 := Lib.hid (BN.out.keep hx5)
             obtain ⟨cn, fn⟩ := BN5.out.one
             have ca := (X5.out.cell (p := ⟨w.heap.size, 0, none⟩) BA.out.lt).trans ca0
             have cb := (X5.out.cell (p := ⟨w.heap.size + 1, 0, none⟩) BB.out.lt).trans cb0
             have cy := (X5.out.cell (p := ⟨b2, o2, none⟩) hy4).trans cy0
             have FIN := Lib.hid (show SmallPost w a b (.pointer (some ⟨w4.heap.size, 0, none⟩)) (.int .u32 ((a % b : Nat) : Int)) (w5.setCell ⟨w4.heap.size, 0, none⟩ (.slice A5 n5 c5)) from
               ⟨A5, n5, c5, w4.heap.size, rfl, rfl, BS.out.lt, BN5.out.set_ 0 _, R5.out.set_ (p := ⟨w4.heap.size, 0, none⟩) BN5.out (by decide) _, (BR.out.keep X5.out).far (p := ⟨w4.heap.size, 0, none⟩) (by have := BR.out.lt; simp only; omega) _, (BS.out.keep X5.out).far (p := ⟨w4.heap.size, 0, none⟩) (by have := BS.out.lt; simp only; omega) _, Ext.set_ (HX4.out.tr X5.out) (p := ⟨w4.heap.size, 0, none⟩) (by have := HX4.out.size; simp only; omega) _⟩)
             clear hx5 hR5))
      all_goals
        go_wp2
        go_meet
        exact FIN.out
    case rest =>
      obtain ⟨A5, n5, c5, gx, rfl, rfl, hgx, bx, r5, br, bs, hx5⟩ := hcut
      have cx := bx.one.1
      obtain ⟨d2, f2⟩ := br.one
      obtain ⟨d3, f3⟩ := bs.one
      have hmb : a % b < 4294967296 := Nat.lt_trans (Nat.mod_lt _ HB0.out) hbB
      have R5 := Lib.hid r5
      have BR5 := Lib.hid br
      have BS5 := Lib.hid bs
      have BX5 := Lib.hid bx
      have X5 := Lib.hid hx5
      clear r5 br bs hx5 bx BR BS BA BB HX4
      have HRM := Lib.hid (show a % b = a % b from rfl)
      generalize hrm : a % b = rm at *
      have HRM2 := Lib.hid hrm
      clear hrm
      have hwr : IntKind.u64.wrap (rm : Int) = (rm : Int) := IntWalk.u64_in _ (by omega)
      have hgx1 : gx ≠ w.heap.size + 1 + 1 := by omega
      have hgx2 : gx ≠ w.heap.size + 1 + 1 + 1 := by omega
      go_wp2
      go_region_held3 (fun w' => w'.cell? ⟨gx, 0, none⟩ = some (.slice A5 n5 c5)) (first | exact cx | exact cell_set_of cx hgx1 | exact cell_set_of (cell_set_of cx hgx1) hgx2)
        (first
          | (go_at_call 45
             refine (natOf_any _ _ (by omega) (by omega)).mono ?_
             rintro e w6 ⟨A6, n6, c6, rfl, hR6, hx6⟩
             have X6 := Lib.hid (show Ext wc w6 from ((Ext.refl wc).drewN 1).tr hx6)
             have cx := (BX5.out.keep X6.out).one.1
             obtain ⟨d2, f2⟩ := (BR5.out.keep X6.out).one
             obtain ⟨d3, f3⟩ := (BS5.out.keep X6.out).one))
      go_wp2
      have e1 : NatR w6 A5 n5 c5 (a / b) := R5.out.keep X6.out
      have e2 : NatR w6 A6 n6 c6 rm := hR6
      have hb4 := BR5.out.keep X6.out
      have hb5 := BS5.out.keep X6.out
      have hb1 := (hb4.set_ 0 (.slice A5 n5 c5)).far (p := ⟨w.heap.size + 1 + 1 + 1, 0, none⟩) (by first | (simp; omega) | simp) (.slice A6 n6 c6)
      have hb2 := (hb5.far (p := ⟨w.heap.size + 1 + 1, 0, none⟩) (by first | (simp; omega) | simp) (.slice A5 n5 c5))
      have hxx := X5.out.tr X6.out
      refine bodyPost_ret (v := .tuple #[.agg #[.slice A5 n5 c5], .agg #[.slice A6 n6 c6], .int .i64 0]) (by simp [results, Tryz.results84, go_sem, hb1.cell, (hb2.set_ 0 _).cell]) rfl
        ⟨_, _, _, _, _, _, rfl, ?_, ?_, ?_⟩
      · exact (e1.set_ (p := ⟨w.heap.size + 1 + 1, 0, none⟩) hb4 (by decide) _).set_ (p := ⟨w.heap.size + 1 + 1 + 1, 0, none⟩) hb2 (by decide) _
      · exact (e2.set_ (p := ⟨w.heap.size + 1 + 1, 0, none⟩) hb4 (by decide) _).set_ (p := ⟨w.heap.size + 1 + 1 + 1, 0, none⟩) hb2 (by decide) _
      · exact ((hxx.set_ (by first | (simp; omega) | simp) _).set_ (by first | (simp; omega) | simp) _)
  · have hb1 : ((n2 : Int) == 1) = false := beq_eq_false_iff_ne.2 (by omega)
    go_wp2_with fail
    refine (divideLong_any A1 A2 n1 c1 n2 c2 a b _ (H1.out.keep HX4.out) (H2.out.keep HX4.out) hn1 (by omega) HAB.out).mono ?_
    rintro e w5 ⟨A5, n5, c5, A6, n6, c6, rfl, hR5, hR6, hx5⟩
    have BR5 := Lib.hid (BR.out.keep hx5)
    have BS5 := Lib.hid (BS.out.keep hx5)
    have X5 := Lib.hid (HX4.out.tr hx5)
    have R5 := Lib.hid hR5
    have R6 := Lib.hid hR6
    clear hx5 hR5 hR6 ca cb HX4
    obtain ⟨b1, b2, e7⟩ := boxes2 w5 #[.slice A5 n5 c5] 36 #[.slice A6 n6 c6] 36
    generalize hw7 : (w5.alloc (.cells #[.slice A5 n5 c5] 36)).alloc (.cells #[.slice A6 n6 c6] 36) = w7 at *
    have BR7 := Lib.hid (BR5.out.keep e7)
    have BS7 := Lib.hid (BS5.out.keep e7)
    obtain ⟨d2, f2⟩ := BR7.out.one
    obtain ⟨d3, f3⟩ := BS7.out.one
    have p1 := b1.one.1
    have p2 := b2.one.1
    have q1 : w.heap.size + 1 + 1 ≠ w5.heap.size := by have := BR5.out.lt; omega
    have q2 : w.heap.size + 1 + 1 ≠ w5.heap.size + 1 := by have := BR5.out.lt; omega
    have R57 := Lib.hid (R5.out.keep e7)
    have R67 := Lib.hid (R6.out.keep e7)
    have X7 := Lib.hid (X5.out.tr e7)
    clear e7 b1 b2 R5 R6 X5 BR5 BS5
    go_wp2
    clear hw7
    go_region
    all_goals
      go_wp2
      have hb4 := BR7.out
      have hb5 := BS7.out
      have hb1 := (hb4.set_ 0 (.slice A5 n5 c5)).far (p := ⟨w.heap.size + 1 + 1 + 1, 0, none⟩) (by first | (simp; omega) | simp) (.slice A6 n6 c6)
      have hb2 := (hb5.far (p := ⟨w.heap.size + 1 + 1, 0, none⟩) (by first | (simp; omega) | simp) (.slice A5 n5 c5))
      have hxx := X7.out
      refine bodyPost_ret (v := .tuple #[.agg #[.slice A5 n5 c5], .agg #[.slice A6 n6 c6], .int .i64 0]) (by simp [results, Tryz.results84, go_sem, hb1.cell, (hb2.set_ 0 _).cell]) rfl
        ⟨_, _, _, _, _, _, rfl, ?_, ?_, ?_⟩
      · exact (R57.out.set_ (p := ⟨w.heap.size + 1 + 1, 0, none⟩) hb4 (by decide) _).set_ (p := ⟨w.heap.size + 1 + 1 + 1, 0, none⟩) hb2 (by decide) _
      · exact (R67.out.set_ (p := ⟨w.heap.size + 1 + 1, 0, none⟩) hb4 (by decide) _).set_ (p := ⟨w.heap.size + 1 + 1 + 1, 0, none⟩) hb2 (by decide) _
      · exact ((hxx.set_ (by first | (simp; omega) | simp) _).set_ (by first | (simp; omega) | simp) _).drewN 1
/-- DivMod is right at all numbers. -/
theorem divModAt_all (x y : Nat) (hy : 0 < y) : DivModAt x y := fun A1 A2 n1 c1 n2 c2 w h1 h2 hn1 hn2 => by
  rcases Nat.lt_or_ge x 18446744073709551616 with hx | hx
  · exact divModAt_small hy hx A1 A2 n1 c1 n2 c2 w h1 h2 hn1 hn2
  · rcases Nat.lt_or_ge x y with h | h
    · rw [Nat.div_eq_of_lt h, Nat.mod_eq_of_lt h]; exact divMod_less A1 A2 n1 c1 n2 c2 x y w h1 h2 hn1 h
    · exact divMod_big A1 A2 n1 c1 n2 c2 x y w h1 h2 hn1 hy h hx
theorem reducedAt_all {N D : Nat} (hD : D ≠ 0) : ReducedAt N D := reducedAt_of hD (fun _ x y hy => divModAt_all x y hy)
end Go.Proofs.YtjmkcckbbgpkeaaGreatDoor
