/-
  The example of the document, and the law's copy of a list.
  Conditions: as each theorem says.
-/
import Derived.Test.YtbiecglooagmmaaScR
namespace Go.Proofs.Ytbiecglooagmmaa
set_option linter.unusedSimpArgs false
set_option linter.unusedVariables false
set_option maxRecDepth 100000
open Go.RowKit

def awL : List SV → Prop := fun S => secs S = [secL 2 5 1, [], secL 2 4 2, [120]]
theorem cand_sec {bl : Int} {b ver t : Nat} (h1 : b < 65536) (h2 : 1 ≤ ver) (h3 : ver < 18446744073709551616) (h4 : t < 18446744073709551616) (h5 : (b : Int) < bl) : cand bl (secL b ver t) = some (dataE b ver, (t : Int)) := by
  unfold cand
  rw [dec_sec h1 h2 h3 h4]
  simp only
  rw [if_pos (by first | exact ⟨rfl, h5⟩ | exact ⟨trivial, h5⟩)]
def awC : Cd := ⟨dataE 2 5, 1, 0⟩
theorem aw_best (b : Int) : best 8 [secL 2 5 1, [], secL 2 4 2, [120]] b 4 = if b = 2 then some awC else none := by
  have c0 : cand 8 (secL 2 5 1) = some (dataE 2 5, 1) := cand_sec (by omega) (by omega) (by omega) (by omega) (by omega)
  have c2 : cand 8 (secL 2 4 2) = some (dataE 2 4, 2) := cand_sec (by omega) (by omega) (by omega) (by omega) (by omega)
  have c1 : cand 8 [] = none := cand_short (by simp)
  have c3 : cand 8 [120] = none := cand_short (by simp)
  have e1 : (dataE 2 5).block = 2 := rfl
  have e2 : (dataE 2 4).block = 2 := rfl
  by_cases hb : b = 2
  · subst hb
    simp [best, c0, c1, c2, c3, stepC, newer, awC, e1, e2]
    simp [dataE]
  · simp [best, c0, c1, c2, c3, e1, e2, hb, Ne.symm hb]
theorem aw_found : foundP 8 [secL 2 5 1, [], secL 2 4 2, [120]] 4 (capN 8) = [awC] := by
  have hc : capN 8 = 8 := by decide
  rw [hc]
  unfold foundP
  have h8 : List.range 8 = [0, 1, 2, 3, 4, 5, 6, 7] := by decide
  rw [h8]
  simp [List.filterMap_cons, aw_best]
theorem aw_bands (s0 s1 s2 s3 : Sec) (h0 : s0 = ⟨false, secL 2 5 1⟩) (h1 : s1 = ⟨true, []⟩) (h2 : s2 = ⟨false, secL 2 4 2⟩) (h3 : s3 = ⟨false, [120]⟩) : liveP 4 (bandsK 8 4 1 [s0, s1, s2, s3] 4) [awC] = [⟨4, 1, 2, 0⟩] := by
  have c0 : cand 8 (secL 2 5 1) = some (dataE 2 5, 1) := cand_sec (by omega) (by omega) (by omega) (by omega) (by omega)
  have c2 : cand 8 (secL 2 4 2) = some (dataE 2 4, 2) := cand_sec (by omega) (by omega) (by omega) (by omega) (by omega)
  have c3 : cand 8 [120] = none := cand_short (by simp)
  subst h0 h1 h2 h3
  simp [bandsK, upB, ageS, c0, c2, c3, liveP, awC, incB, List.replicate]
  decide
structure Aw17 (W0 W : World) (a : Option Addr) (c : Nat) (l : List UInt8) : Prop where
  r : RdY W a l
  le : l.length ≤ c
  b : Below W0.heap.size W0 W
theorem Aw17.on {W0 W W' : World} {a : Option Addr} {c : Nat} {l : List UInt8} (h : Aw17 W0 W a c l) (hb : Below W.heap.size W W') : Aw17 W0 W' a c l := ⟨h.r.keep hb, h.le, h.b.on hb⟩
theorem Aw17.of {W0 W W' : World} {v : Value} {l : List UInt8} (h0 : Below W0.heap.size W0 W) (ho : OwnY W' W.heap.size v l) (hb : Below W.heap.size W W') (hl : l.length ≤ 1000) : ∃ a c, v = .slice a l.length c ∧ Aw17 W0 W' a c l := by
  obtain ⟨a, c, rfl, h1, _, h2⟩ := ho.rd (by omega)
  exact ⟨a, c, rfl, h2, h1, h0.on hb⟩
/-- '[]byte("..")': the block is marked; nothing else turns, its cells read as before. -/
theorem conv_mark {w : World} {g n : Nat} {e : TypeId} (h : w.shape? g = some (e, n)) (m c : Nat) : (convert 36 36 (.slice (some ⟨g, 0, none⟩) m c)).run Try.prog w = .ok (.slice (some ⟨g, 0, none⟩) m c) (w.freeze ⟨g, n, none⟩ 1) := by
  simp [convert, run_underlying Try.underlying36, run_underlying Try.underlying5, markStringish, h]
theorem freeze_cell (w : World) (g n : Nat) (a : Addr) : (w.freeze ⟨g, n, none⟩ 1).cell? a = w.cell? a := by
  unfold World.freeze
  rw [if_neg (by decide)]
  unfold World.cell?
  simp only [Array.getElem?_modify]
  by_cases e : g = a.block
  · rw [if_pos e]
    cases hq : w.heap[a.block]? with
    | none => rfl
    | some o => cases o <;> rfl
  · rw [if_neg e]
theorem freeze_grown (w : World) (g n : Nat) : w.grownBy (w.freeze ⟨g, n, none⟩ 1) (some g) := by
  unfold World.freeze
  rw [if_neg (by decide)]
  refine ⟨rfl, rfl, rfl, by simp, fun k hk hne => ?_⟩
  simp only [Array.getElem?_modify]
  rw [if_neg (fun e => hne (by rw [e]))]
theorem freeze_below {w0 w : World} {g n : Nat} (h : Below w0.heap.size w0 w) (hg : w0.heap.size ≤ g) : Below w0.heap.size w0 (w.freeze ⟨g, n, none⟩ 1) :=
  h.onGrow (freeze_grown w g n) fun k e => by injection e with e; omega
end Go.Proofs.Ytbiecglooagmmaa
