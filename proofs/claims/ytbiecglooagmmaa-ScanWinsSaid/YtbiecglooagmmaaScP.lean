/-
  Plain: numbers and bytes, entries, the newest candidate of a block, bands.
  Conditions: as each theorem says.
-/
import Derived.Test.YtbiecglooagmmaaScA
import Derived.Lib.VarintBits
namespace Go.Proofs.Ytbiecglooagmmaa
set_option linter.unusedSimpArgs false
set_option linter.unusedVariables false
set_option maxRecDepth 100000
open Go.RowKit

/-- The number in bytes, the least byte first. -/
def getL : List UInt8 → Nat
  | [] => 0
  | c :: r => c.toNat + 256 * getL r
def putY : Nat → Nat → List UInt8
  | 0, _ => []
  | k + 1, n => (n % 256).toUInt8 :: putY k (n / 256)
theorem putY_len (k n : Nat) : (putY k n).length = k := by
  induction k generalizing n with
  | zero => rfl
  | succ k ih => simp [putY, ih]
theorem getL_lt (l : List UInt8) : getL l < 256 ^ l.length := by
  induction l with
  | nil => simp [getL]
  | cons c r ih =>
    have := c.toNat_lt
    rw [getL, List.length_cons, Nat.pow_succ]
    omega
theorem getL_snoc (l : List UInt8) (c : UInt8) : getL (l ++ [c]) = getL l + c.toNat * 256 ^ l.length := by
  induction l with
  | nil => simp [getL]
  | cons d r ih =>
    rw [List.cons_append, getL, ih, getL, List.length_cons, Nat.pow_succ]
    rw [Nat.mul_add, Nat.add_assoc]
    congr 2
    rw [Nat.mul_left_comm, Nat.mul_comm 256]
theorem getL_take (l : List UInt8) (k : Nat) (h : k < l.length) : getL (l.take (k + 1)) = getL (l.take k) + l[k].toNat * 256 ^ k := by
  rw [List.take_succ_eq_append_getElem h, getL_snoc, List.length_take, Nat.min_eq_left (by omega)]
theorem byte_back (n : Nat) : ((n % 256).toUInt8).toNat = n % 256 := by
  show (UInt8.ofNat (n % 256)).toNat = _
  rw [UInt8.toNat_ofNat']
  omega
theorem getL_put (k n : Nat) : getL (putY k n) = n % 256 ^ k := by
  induction k generalizing n with
  | zero => simp [getL, putY, Nat.mod_one]
  | succ k ih =>
    rw [putY, getL, ih, byte_back, Nat.pow_succ, Nat.mul_comm (256 ^ k), Nat.mod_mul]
theorem putY_snoc (k n : Nat) : putY (k + 1) n = putY k n ++ [(n / 256 ^ k % 256).toUInt8] := by
  induction k generalizing n with
  | zero => simp [putY]
  | succ k ih =>
    rw [putY, ih, putY, List.cons_append, Nat.div_div_eq_div_mul, Nat.pow_succ, Nat.mul_comm 256]
theorem putY_get (l : List UInt8) : putY l.length (getL l) = l := by
  induction l with
  | nil => rfl
  | cons c r ih =>
    have h := c.toNat_lt
    rw [List.length_cons, putY, getL]
    have h1 : (c.toNat + 256 * getL r) % 256 = c.toNat := by omega
    have h2 : (c.toNat + 256 * getL r) / 256 = getL r := by omega
    rw [h1, h2, ih]
    congr 1
    exact UInt8.ofNat_toNat
theorem putY_inj {k n : Nat} {l : List UInt8} (hl : l.length = k) (hn : n < 256 ^ k) : putY k n = l ↔ getL l = n := by
  constructor
  · intro h
    rw [← h, getL_put, Nat.mod_eq_of_lt hn]
  · intro h
    rw [← h, ← hl, putY_get]
theorem or_byte (m z k : Nat) (hm : m < 256 ^ k) (hk : k ≤ 7) (hz : z < 256) :
    bits .or .u64 (m : Int) (IntKind.u64.wrap ((z : Int) * 2 ^ (8 * k))) = ((m + z * 256 ^ k : Nat) : Int) := by
  have hp : (256 : Nat) ^ k ≤ 256 ^ 7 := Nat.pow_le_pow_right (by omega) hk
  have h2 : (2 : Nat) ^ (8 * k) = 256 ^ k := by rw [Nat.pow_mul]
  have hlt : z * 256 ^ k ≤ 255 * 256 ^ 7 := Nat.mul_le_mul (by omega) hp
  have e2 : (z : Int) * 2 ^ (8 * k) = ((z * 256 ^ k : Nat) : Int) := by
    rw [← h2]
    push_cast
    rfl
  rw [e2]
  have e3 : IntKind.u64.wrap ((z * 256 ^ k : Nat) : Int) = ((z * 256 ^ k : Nat) : Int) := wraps_u64 _ (by omega) (by omega)
  rw [e3]
  have hd : ((z * 256 ^ k : Nat) : Int) % 2 ^ (8 * k) = 0 := by
    have : ((2 : Int) ^ (8 * k)) = ((256 ^ k : Nat) : Int) := by rw [← h2]; push_cast; rfl
    rw [this]
    push_cast
    exact Int.mul_emod_left _ _
  have hm2 : (m : Int) < 2 ^ (8 * k) := by
    have : ((2 : Int) ^ (8 * k)) = ((256 ^ k : Nat) : Int) := by rw [← h2]; push_cast; rfl
    rw [this]
    exact_mod_cast hm
  rw [bits_join_low .u64 64 (by decide) wraps_u64 (8 * k) (m : Int) _ (by omega) hm2 (by omega) (by omega) hd (by omega)]
  push_cast
  rfl
/-- An entry. -/
structure Ent where
  kind : Int
  block : Int
  ver : Int
  d0 : UInt8
  d1 : UInt8
  d2 : UInt8
  d3 : UInt8
  d4 : UInt8
  d5 : UInt8
  d6 : UInt8
  d7 : UInt8
deriving DecidableEq
def Ent.data (e : Ent) : List UInt8 := [e.d0, e.d1, e.d2, e.d3, e.d4, e.d5, e.d6, e.d7]
def Ent.blank (e : Ent) : Bool := e.data == List.replicate 8 0
def Ent.ok (e : Ent) : Bool := decide (0 ≤ e.block ∧ e.block < 65536 ∧ 1 ≤ e.ver) && (decide (e.kind = 1) || (decide (e.kind = 2) && e.blank))
def zeroE : Ent := ⟨0, 0, 0, 0, 0, 0, 0, 0, 0, 0, 0⟩
def decE (l : List UInt8) : Ent := ⟨(l.getD 0 0).toNat, getL ((l.drop 1).take 4), getL ((l.drop 5).take 8), l.getD 13 0, l.getD 14 0, l.getD 15 0, l.getD 16 0, l.getD 17 0, l.getD 18 0, l.getD 19 0, l.getD 20 0⟩
/-- What Decode returns: entry, time, error. -/
def dec (l : List UInt8) : Ent × Int × Int :=
  if l.length = 37 then
    if crcN (l.take 29) = getL (l.drop 29) then
      if (decE l).ok then (decE l, (getL ((l.drop 21).take 8) : Nat), 0) else (zeroE, 0, 5)
    else (zeroE, 0, 6)
  else (zeroE, 0, 5)
def encP (e : Ent) (t : Nat) : List UInt8 := putY 1 e.kind.toNat ++ putY 4 e.block.toNat ++ putY 8 e.ver.toNat ++ e.data ++ putY 8 t
def sealP (l : List UInt8) : List UInt8 := l ++ putY 8 (crcN l)
/-- What a sector holds, if it is a candidate. -/
def cand (bl : Int) (l : List UInt8) : Option (Ent × Int) := match dec l with
  | (e, t, x) => if x = 0 ∧ e.block < bl then some (e, t) else none
structure Cd where
  e : Ent
  t : Int
  i : Nat
deriving DecidableEq
def newer (a b : Cd) : Bool := decide (b.e.ver < a.e.ver ∨ a.e.ver = b.e.ver ∧ b.t < a.t)
def stepC (o : Option Cd) (c : Cd) : Option Cd := match o with
  | none => some c
  | some x => if newer c x then some c else some x
/-- The newest candidate of a block in the first k sectors. -/
def best (bl : Int) (L : List (List UInt8)) (b : Int) : Nat → Option Cd
  | 0 => none
  | k + 1 => match cand bl (L.getD k []) with
    | none => best bl L b k
    | some (e, t) => if e.block = b then stepC (best bl L b k) ⟨e, t, k⟩ else best bl L b k
theorem dec_ok {l : List UInt8} {e : Ent} {t x : Int} (h : dec l = (e, t, x)) (hx : x = 0) : l.length = 37 ∧ e = decE l ∧ e.ok = true ∧ t = (getL ((l.drop 21).take 8) : Nat) := by
  unfold dec at h
  split at h
  · split at h
    · split at h
      · rename_i q1 q2 q3
        injection h with h1 h2
        injection h2 with h2 h3
        exact ⟨q1, h1.symm, by rw [← h1]; exact q3, h2.symm⟩
      · injection h with h1 h2
        injection h2 with h2 h3
        omega
    · injection h with h1 h2
      injection h2 with h2 h3
      omega
  · injection h with h1 h2
    injection h2 with h2 h3
    omega
theorem cand_some {bl : Int} {l : List UInt8} {e : Ent} {t : Int} (h : cand bl l = some (e, t)) : l.length = 37 ∧ e = decE l ∧ e.ok = true ∧ t = (getL ((l.drop 21).take 8) : Nat) ∧ e.block < bl ∧ dec l = (e, t, 0) := by
  unfold cand at h
  obtain ⟨p, hd⟩ : ∃ p, dec l = p := ⟨_, rfl⟩
  obtain ⟨e', t', x⟩ := p
  rw [hd] at h
  simp only at h
  split at h
  · rename_i hx
    injection h with h
    injection h with h1 h2
    subst h1 h2
    obtain ⟨h1, h2, h3, h4⟩ := dec_ok hd hx.1
    exact ⟨h1, h2, h3, h4, hx.2, by rw [hd, hx.1]⟩
  · cases h
/-- What the newest candidate is. -/
theorem best_some {bl : Int} {L : List (List UInt8)} {b : Int} {k : Nat} {c : Cd} (h : best bl L b k = some c) : c.i < k ∧ c.e.block = b ∧ cand bl (L.getD c.i []) = some (c.e, c.t) := by
  induction k generalizing c with
  | zero => cases h
  | succ k ih =>
    unfold best at h
    split at h
    · obtain ⟨h1, h2⟩ := ih h
      exact ⟨by omega, h2⟩
    · rename_i e t he
      split at h
      · rename_i hb
        unfold stepC at h
        split at h
        · injection h with h
          subst h
          exact ⟨by simp, hb, he⟩
        · rename_i x hx
          split at h
          · injection h with h
            subst h
            exact ⟨by simp, hb, he⟩
          · injection h with h
            subst h
            obtain ⟨h1, h2⟩ := ih hx
            exact ⟨by omega, h2⟩
      · obtain ⟨h1, h2⟩ := ih h
        exact ⟨by omega, h2⟩
/-- It is newer than each other candidate of its block, or as new and ahead of it. -/
def Beats (c : Cd) (e : Ent) (t : Int) (j : Nat) : Prop := e.ver < c.e.ver ∨ (e.ver = c.e.ver ∧ (t < c.t ∨ (t = c.t ∧ c.i ≤ j)))
theorem best_all {bl : Int} {L : List (List UInt8)} {b : Int} {k : Nat} {j : Nat} {e : Ent} {t : Int} (hj : j < k) (hc : cand bl (L.getD j []) = some (e, t)) (hb : e.block = b) : ∃ c, best bl L b k = some c ∧ Beats c e t j := by
  induction k with
  | zero => omega
  | succ k ih =>
    unfold best
    by_cases hjk : j < k
    · obtain ⟨c, h1, h2⟩ := ih hjk
      rw [h1]
      cases hq : cand bl (L.getD k []) with
      | none => exact ⟨c, rfl, h2⟩
      | some p =>
        obtain ⟨e', t'⟩ := p
        simp only
        split
        · unfold stepC
          simp only
          split
          · rename_i hn
            refine ⟨_, rfl, ?_⟩
            unfold newer at hn
            simp only [decide_eq_true_eq] at hn
            unfold Beats at *
            simp only
            omega
          · exact ⟨c, rfl, h2⟩
        · exact ⟨c, rfl, h2⟩
    · have : j = k := by omega
      subst this
      rw [hc]
      simp only [hb, if_true]
      unfold stepC
      cases hq : best bl L b j with
      | none => exact ⟨_, rfl, .inr ⟨rfl, .inr ⟨rfl, Nat.le_refl _⟩⟩⟩
      | some x =>
        have hx := (best_some hq).1
        simp only
        split
        · exact ⟨_, rfl, .inr ⟨rfl, .inr ⟨rfl, Nat.le_refl _⟩⟩⟩
        · rename_i hn
          refine ⟨_, rfl, ?_⟩
          unfold newer at hn
          simp only [decide_eq_true_eq] at hn
          unfold Beats
          omega
/-- The candidate that beats all others is the newest one. -/
theorem best_eq {bl : Int} {L : List (List UInt8)} {b : Int} {k : Nat} {c : Cd} (h1 : c.i < k) (h2 : cand bl (L.getD c.i []) = some (c.e, c.t)) (h3 : c.e.block = b) (h4 : ∀ j e t, j < k → cand bl (L.getD j []) = some (e, t) → e.block = b → Beats c e t j) : best bl L b k = some c := by
  obtain ⟨d, h5, h6⟩ := best_all h1 h2 h3
  rw [h5]
  obtain ⟨g1, g2, g3⟩ := best_some h5
  have h7 := h4 _ _ _ g1 g3 g2
  obtain ⟨ce, ct, ci⟩ := c
  obtain ⟨de, dt, di⟩ := d
  unfold Beats at h6 h7
  simp only at *
  have hi : di = ci := by omega
  subst hi
  rw [h2] at g3
  injection g3 with g3
  injection g3 with q1 q2
  subst q1 q2
  rfl
theorem best_none {bl : Int} {L : List (List UInt8)} {b : Int} {k : Nat} (h : ∀ j e t, j < k → cand bl (L.getD j []) = some (e, t) → e.block ≠ b) : best bl L b k = none := by
  cases hq : best bl L b k with
  | none => rfl
  | some c =>
    obtain ⟨g1, g2, g3⟩ := best_some hq
    exact absurd g2 (h _ _ _ g1 g3)
/-- The newest one hangs on the other sectors of its block alone. -/
theorem best_congr {bl : Int} {L L' : List (List UInt8)} {b : Int} {k : Nat} {c : Cd} (h : best bl L b k = some c) (hc : L'.getD c.i [] = L.getD c.i []) (hs : ∀ j e t, j < k → cand bl (L'.getD j []) = some (e, t) → e.block = b → cand bl (L.getD j []) = some (e, t)) : best bl L' b k = some c := by
  obtain ⟨g1, g2, g3⟩ := best_some h
  refine best_eq g1 (by rw [hc]; exact g3) g2 fun j e t hj hq hb => ?_
  obtain ⟨d, h5, h6⟩ := best_all hj (hs j e t hj hq hb) hb
  rw [h] at h5
  injection h5 with h5
  subst h5
  exact h6
end Go.Proofs.Ytbiecglooagmmaa
