/-
  package family: Slots, Count, Free, Lookup, Range.
  Conditions: as each theorem says.
-/
import Derived.Test.YtpakjddfnhnndaaFaK
import Derived.Test.YtpakjddfnhnndaaRcH
namespace Go.Proofs.Ytpakjddfnhnndaa
set_option linter.unusedSimpArgs false
set_option linter.unusedVariables false
set_option maxRecDepth 100000
open Go.RowKit Go.Maps

theorem RdV.fit {F : Fam} (hF : F.ok) {ts : List VT} (h : ts.map VT.vol = F.vs) : ∀ v ∈ ts, v.vol.ok F.N := fun v hv => hF.vol _ (by rw [← h]; exact List.mem_map.2 ⟨v, hv, rfl⟩)
theorem ts_bounds {F : Fam} (hF : F.ok) {ts : List VT} (h : ts.map VT.vol = F.vs) : ∀ v ∈ ts, 0 ≤ v.n ∧ v.n ≤ 65536 := fun v hv => by
  have := RdV.fit hF h v hv
  have h1 := this.n1
  have h2 := this.n2
  exact ⟨by have : (1 : Int) ≤ v.n := h1; omega, h2⟩
theorem ts_len {F : Fam} (hF : F.ok) {ts : List VT} (h : ts.map VT.vol = F.vs) : ts.length ≤ 32 := by
  have := hF.few
  rw [← h, List.length_map] at this
  exact this
set_option maxHeartbeats 1000000 in
theorem fcount_is (F : Fam) (fv : Value) (s : Int) (w : World) (h : FamV w fv F) : Calls Try.prog 14 #[fv, .int .i64 s] w fun e w' => e = .returned (.int .i64 (ofC F.C s)) ∧ Below w.heap.size w w' := by
  obtain ⟨a, c, mb, rfl, hr, _⟩ := h
  have HI := Lib.hid (of_any F.C a c s _ (hr.keep ((Below.refl w.heap.size w).onAlloc (.cells #[.slice a F.N c, .map mb] 28))))
  rw [F.C_length] at HI
  clear hr
  go_enter Try.func14, Try.ntmps14
  go_wp2_with fail
  refine HI.out.mono ?_
  rintro e w1 ⟨rfl, hb⟩
  have HB := Lib.hid hb
  clear hb
  go_wp2_with fail
  go_ret
  exact ⟨rfl, ((Below.refl _ _).onAlloc _).on HB.out⟩
theorem freeL_short (C : List Int) : (zeroL C).length ≤ 65536 := canon_short (runs_facts _).1
theorem ftree_ok {N : Nat} {v : VT} (h : v.vol.ok N) : validB v.t.toL = true ∧ normB v.t.toL = true ∧ inside v.t.toL v.n := ⟨h.valid, h.norm, h.ins⟩
theorem inB_within {p q n : Int} (h : inB p q n = true) (hn : n ≤ 65536) : withinB p q 65536 = true := by
  obtain ⟨h1, h2, h3, h4⟩ := (inB_iff _ _ _).1 h
  exact decide_eq_true (by omega)
end Go.Proofs.Ytpakjddfnhnndaa
