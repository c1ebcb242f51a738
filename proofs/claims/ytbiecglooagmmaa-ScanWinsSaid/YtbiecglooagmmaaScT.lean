/-
  tegulalaw17.with.
  Conditions: as the theorem says.
-/
import Derived.Test.YtbiecglooagmmaaScS
namespace Go.Proofs.Ytbiecglooagmmaa
set_option linter.unusedSimpArgs false
set_option linter.unusedVariables false
set_option maxRecDepth 100000
open Go.RowKit

theorem infoSl : (Try.prog.info? 36).map (fun i => (i.zero, i.size, i.bytes)) = some (some (.slice none 0 0), 1, 24) := by kernel_rfl
theorem RdZ.source {w : World} {a : Option Addr} {S : List SV} (h : RdZ w a S) : w.source 1 a S.length (S.map SV.v) := by
  refine ⟨by simp, fun u hu => by obtain ⟨x, _, rfl⟩ := List.mem_map.1 hu; rfl, ?_⟩
  rcases h.2.2 with rfl | ⟨b, o, rfl, hat⟩
  · cases a with
    | none => exact .inl ⟨rfl, rfl⟩
    | some ad => exact .inr ⟨ad, rfl, fun j u hu => by simp at hu⟩
  · refine .inr ⟨_, rfl, fun j u hu => ?_⟩
    rw [List.getElem?_map] at hu
    obtain ⟨x, hx, rfl⟩ := Option.map_eq_some_iff.1 hu
    have := hat j x hx
    by_cases hj0 : j = 0
    · subst hj0; simpa [Addr.add] using this
    · simpa [Addr.add, hj0] using this
def WithP (S : List SV) (w : World) (e : Ending) (w' : World) : Prop := ∃ g c, e = .returned (.slice (some ⟨g, 0, none⟩) S.length c) ∧ RdZ w' (some ⟨g, 0, none⟩) S ∧ S.length ≤ c ∧ Below w.heap.size w w'
set_option maxHeartbeats 4000000 in
theorem with_any (S : List SV) (k : Nat) (s : SV) (a : Option Addr) (c : Nat) (w : World) (hr : RdZ w a S) (hk : k < S.length) (hl : S.length ≤ 1000) (hs : s.fit w) :
    Calls Try.prog 15 #[.slice a S.length c, .int .i64 k, s.v] w (WithP (S.set k s) w) := by
  obtain ⟨i0, hi, hz0, hz1, hz2⟩ := info_parts infoSl
  have HO : Hid ((w.alloc (.cells #[] 36)).ownsRow w.heap.size 36 1 (.slice (some ⟨w.heap.size, 0, none⟩) 0 0) 0 []) := Lib.hid (World.ownsRow_lit w #[] 0 (Nat.le_refl _) (by simp) rfl)
  have hka := (Below.refl w.heap.size w).onAlloc (.cells #[] 36)
  have HKA := Lib.hid hka
  have HSS := Lib.hid ((hr.keep hka)).source
  have HR := Lib.hid hr
  have HS := Lib.hid hs
  unfold WithP SV.v
  rw [List.length_set]
  have hk1 : (k : Int) < S.length := by omega
  have hk0 : (0 : Int) ≤ k := by omega
  clear hka hr hs
  go_enter Try.func15, Try.ntmps15
  go_upto_region 2 with (at_builtin; refine wpList_append_xs _ rfl _ _ 24 rfl w.heap.size 36 i0 (.slice none 0 0) 1 24 Try.underlying24 hi hz0 hz1 hz2 rfl (by decide) _ _ _ rfl HO.out _ _ _ _ rfl HSS.out (by simp; omega) (by simp [maxLen]; omega) (by simp) ?_; intro v1 w3 hown1 hgrow1 hwhere1)
  have HB3 := Lib.hid (HKA.out.onGrow hgrow1 fun j hj => (World.ownsRow.lt HO.out j hj).1)
  simp only [Nat.zero_add, List.nil_append] at hown1
  obtain ⟨g, cap, cur, rfl, hbg, hg, hn, hc, _, _⟩ := hown1.2.resolve_left (fun e => by have := e.2; omega)
  have hat : ∀ j x, S[j]? = some x → w3.cell? ⟨g, j, none⟩ = some x.v := fun j x hj => by
    have hj' : j < S.length := (List.getElem?_eq_some_iff.1 hj).1
    rw [World.ownsRow.cellAt (cap := cap) hown1 j (by omega), List.getElem?_map, hj]
    rfl
  have hf := fun i => World.ownsRow.frozenAt hown1 i
  have a0 := hat k _ (List.getElem?_eq_getElem hk)
  have af := hf k
  have HAT := Lib.hid hat
  have HN := Lib.hid hn
  have HBG := Lib.hid hbg
  clear hat hf hown1 hgrow1 hwhere1 HKA HO HSS hn hbg
  unfold SV.v at a0
  go_wp2_with fail
  go_ret
  have hb4 : Below w.heap.size w (w3.setCell ⟨g, k, none⟩ s.v) := HB3.out.setCell HBG.out _
  refine ⟨g, cap, rfl, ⟨fun x hx => ?_, by rw [List.length_set]; omega, .inr ⟨g, 0, rfl, fun j x hj => ?_⟩⟩, HN.out, hb4⟩
  · rcases List.mem_or_eq_of_mem_set hx with h | h
    · exact (HR.out.1 x h).keep hb4
    · rw [h]; exact HS.out.keep hb4
  · rw [Nat.zero_add]
    rw [List.getElem?_set] at hj
    by_cases e : k = j
    · subst e
      rw [if_pos rfl, if_pos hk] at hj
      injection hj with hj
      subst hj
      exact World.cell?_setCell_same _ _ _ a0
    · rw [if_neg e] at hj
      rw [World.cell?_setCell_other _ _ _ _ (fun q => e (Addr.mk.inj q).2.1)]
      exact HAT.out j x hj
end Go.Proofs.Ytbiecglooagmmaa
