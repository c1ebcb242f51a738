/-
  package extree: walk over list's function, list.
  Conditions: as each theorem says.
-/
import Derived.Test.YtpakjddfnhnndaaGreatFaE
namespace Go.Proofs.YtpakjddfnhnndaaGreat
set_option linter.unusedSimpArgs false
set_option linter.unusedVariables false
set_option maxRecDepth 100000
open Go.RowKit

theorem grown_same {w w' : World} {row : Option Nat} (hg : w.grownBy w' row) (a : Addr) (hlt : a.block < w.heap.size) (hne : some a.block ≠ row) : w'.cell? a = w.cell? a ∧ w'.frozen? a = w.frozen? a := by
  have := hg.block a.block hlt hne
  simp only [World.cell?, World.frozen?, this, and_self]
theorem grown_set1 (w : World) (a : Addr) (u : Value) : w.grownBy (w.setCell a u) (some a.block) :=
  ⟨rfl, rfl, rfl, by simp [World.setCell], fun k hk hne => Below.heap_setCell _ _ _ _ (fun e => hne (by rw [e]))⟩
theorem OwnE.far {w : World} {B : Nat} {v : Value} {l : List E} (h : OwnE w B v l) (a : Addr) (u : Value) (hne : v.ownBlock ≠ some a.block) : OwnE (w.setCell a u) B v l :=
  h.other (row := some a.block) (grown_set1 w a u) (.inr hne)
/-- The boxed slice at B owns the list L; nothing below w0 has turned. -/
def LS (w0 : World) (B : Nat) (w : World) (L : List E) : Prop :=
  w0.heap.size ≤ B ∧ B < w.heap.size ∧ Below w0.heap.size w0 w ∧ ∃ sv, w.cell? ⟨B, 0, none⟩ = some sv ∧ w.frozen? ⟨B, 0, none⟩ = false ∧ OwnE w (B + 1) sv L
set_option maxRecDepth 100000 in
set_option maxHeartbeats 2000000 in
theorem list1_any (w0 : World) (B : Nat) (L : List E) (x : E) (w : World) (h : LS w0 B w L) (hl : L.length ≤ 1000000000) :
    Calls Tryz.prog 160 #[.agg #[.int .i64 x.a, .int .i64 x.n, .int .i64 x.s], .pointer (some ⟨B, 0, none⟩)] w fun e w' => e = .returned (.bool true) ∧ LS w0 B w' (L ++ [x]) := by
  obtain ⟨i0, hi, hz0, hz1, hz2⟩ := info_parts infoE
  obtain ⟨hB0, hB1, hb, sv, hc, hf, ho⟩ := h
  obtain ⟨a0, c0, rfl, _⟩ := ho.rd (by omega)
  have hne : (Value.slice a0 L.length c0).ownBlock ≠ some B := fun h => by have := (ho.lt B h).1; omega
  have HNE := Lib.hid hne
  have HO := Lib.hid (OwnE.keep ho ((Below.refl w.heap.size w).onAlloc (.cells #[.int .i64 x.a, .int .i64 x.n, .int .i64 x.s] 65)))
  have HB := Lib.hid hb
  clear ho hb hne
  go_enter Tryz.func160, Tryz.ntmps160
  go_wp2_with (at_builtin; go_loud (refine wpList_append_x _ rfl _ _ 51 rfl (B + 1) 65 i0 (.agg #[.int .i64 0, .int .i64 0, .int .i64 0]) 3 24 Tryz.underlying51 hi hz0 hz1 hz2 rfl (by decide) _ _ _ rfl (World.ownsRow.alloc HO.out _) ⟨w.heap.size + 1, 0, none⟩ 1 1 (E.cells x) rfl rfl (newE _ _ (by simp) _ _) (cellsE_one _) (by omega) (by simp only [maxLen]; omega) (by simp only [World.size_alloc]; omega) ?_; intro v1 w1 hown1 hgrow1 hwhere1; have ho1 := OwnE.snoc hown1 (by omega); obtain ⟨a1, c1, rfl, hrd1⟩ := ho1.rd (by simp; omega); have hq := grown_same hgrow1 ⟨B, 0, none⟩ (by simp only [World.size_alloc]; omega) (fun h => HNE.out h.symm); have hc1 : w1.cell? ⟨B, 0, none⟩ = some (.slice a0 L.length c0) := hq.1.trans (by simp [hc]); have hf1 : w1.frozen? ⟨B, 0, none⟩ = false := hq.2.trans (by simp [hc, hf]); have HO1 := Lib.hid ho1; have HG := Lib.hid hgrow1; clear hown1 hgrow1 hwhere1 ho1 hrd1 hq))
  go_ret
  have hg := HG.out
  have h5 := OwnE.far HO1.out ⟨B, 0, none⟩ (.slice a1 (L ++ [x]).length c1) fun h => by have : B + 1 ≤ B := (HO1.out.lt B h).1; omega
  rw [show (L ++ [x]).length = L.length + 1 by simp] at h5
  refine ⟨rfl, hB0, ?_, ?_, _, World.cell?_setCell_same _ _ _ hc1, by rw [World.frozen?_setCell]; exact hf1, h5⟩
  · have := hg.size
    simp at this ⊢
    omega
  · refine Below.setCell ?_ hB0 _
    exact (by (repeat (first | exact Below.refl _ _ | assumption | refine Below.onNext ?_ _ | refine Below.onAlloc ?_ _ | refine Below.setCell ?_ (by simp) _ | refine Below.drew ?_)) : Below w0.heap.size w0 ((w.alloc _).alloc _)).grown hg (by simp; omega) (fun k hk => by have := (HO.out.lt k hk).1; omega)
set_option maxRecDepth 100000 in
set_option maxHeartbeats 2000000 in
theorem walk_list (w0 : World) (B : Nat) (t : Tr) : ∀ (v : Value) (L : List E) (w : World), IsTr w0 v t → LS w0 B w L → L.length + t.size ≤ 1000000000 →
    Calls Tryz.prog 136 #[v, .func (.func 160) #[] #[.pointer (some ⟨B, 0, none⟩)]] w fun e w' => e = .returned (.bool true) ∧ LS w0 B w' (L ++ t.toL) := by
  induction t with
  | nil =>
    intro v L w ht hL _
    obtain rfl : v = .pointer none := ht
    go_enter Tryz.func136, Tryz.ntmps136
    go_wp2_with fail
    go_ret
    exact ⟨rfl, by simpa [Tr.toL] using hL⟩
  | node l x r ihl ihr =>
    intro v L w ht hL hlen
    obtain ⟨b, vl, vr, rfl, hn, hl, hr⟩ := ht
    obtain ⟨al, rfl⟩ := hl.form
    obtain ⟨ar, rfl⟩ := hr.form
    rw [Tr.size_node] at hlen
    have hlsz : l.toL.length = l.size := rfl
    have hb0 := hL.2.2.1
    have z0 := hb0.keep hn.a
    have z1 := hb0.keep hn.n
    have z2 := hb0.keep hn.s
    have z3 := hb0.keep hn.l
    have HN := Lib.hid hn
    have HL := Lib.hid (ihl (.pointer al) L w hl hL (by omega))
    have HR := Lib.hid (fun L w hL hlen => ihr (.pointer ar) L w hr hL hlen)
    clear hl hr ihl ihr hb0 hL hn
    go_enter Tryz.func136, Tryz.ntmps136
    go_wp2_with (first
      | (go_at_call_of 136 (Value.pointer al); refine HL.out.mono ?_; rintro e w1 ⟨rfl, h1⟩; have y0 := h1.2.2.1.keep HN.out.a; have y1 := h1.2.2.1.keep HN.out.n; have y2 := h1.2.2.1.keep HN.out.s; have H1 := Lib.hid h1; clear h1)
      | (go_at_call 160; refine (list1_any w0 B (L ++ l.toL) x w1 H1.out (by rw [List.length_append]; omega)).mono ?_; rintro e w2 ⟨rfl, h2⟩; have u4 := h2.2.2.1.keep HN.out.r; have H2 := Lib.hid h2; clear h2)
      | (go_at_call_of 136 (Value.pointer ar); refine (HR.out (L ++ l.toL ++ [x]) w2 H2.out (by simp only [List.length_append, List.length_singleton]; omega)).mono ?_; rintro e w3 ⟨rfl, h3⟩))
    go_ret
    exact ⟨rfl, by simpa [Tr.toL, List.append_assoc] using h3⟩
set_option maxRecDepth 100000 in
set_option maxHeartbeats 2000000 in
theorem list_tree (t : Tr) (v : Value) (w : World) (ht : IsTr w v t) (hlen : t.size ≤ 1000000000) :
    Calls Tryz.prog 131 #[v] w fun e w' => ∃ sv, e = .returned sv ∧ OwnE w' w.heap.size sv t.toL ∧ Below w.heap.size w w' := by
  obtain ⟨a, rfl⟩ := ht.form
  have h0 : LS w w.heap.size (w.alloc (.cells #[.slice none 0 0] 51)) [] := ⟨Nat.le_refl _, by simp, (Below.refl _ _).onAlloc _, _, by simp, by simp, OwnE.nil _ _⟩
  have HW := Lib.hid (walk_list w w.heap.size t (.pointer a) [] _ ht h0 (by simpa using hlen))
  clear h0 ht
  go_enter Tryz.func131, Tryz.ntmps131
  go_wp2_with fail
  refine HW.out.mono ?_
  rintro e w1 ⟨rfl, h1⟩
  obtain ⟨_, _, hb, sv, hc, hf, ho⟩ := h1
  have HO := Lib.hid ho
  have HB := Lib.hid hb
  clear ho hb
  go_wp2_with fail
  go_ret
  exact ⟨sv, rfl, OwnE.mono HO.out (by omega), HB.out⟩
end Go.Proofs.YtpakjddfnhnndaaGreat
