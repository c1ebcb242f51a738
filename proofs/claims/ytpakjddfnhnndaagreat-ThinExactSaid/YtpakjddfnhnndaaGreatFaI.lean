/-
  package extree: All; slices.Collect of a tree's extents; (volume).extents.
  Conditions: as each theorem says.
-/
import Derived.Test.YtpakjddfnhnndaaGreatGQ
import Derived.RangeFuncNested
import Derived.RangeFuncBound
import Derived.RangeFuncCalls
import Derived.RangeFuncLeaves
import Derived.RangeFuncBox
import Derived.Shelf.Abstract
import Derived.OwnWalkIn
import Derived.TacticsInMore
import Derived.LoopNIn
import Derived.LoopIn
import Derived.Maps.AppendAt
namespace Go.Proofs.YtpakjddfnhnndaaGreat
set_option linter.unusedSimpArgs false
set_option linter.unusedVariables false
set_option maxRecDepth 100000
open Go.RowKit Go.Shelf

attribute [local go_sem] Oper.semAt_some
theorem room_none {F : Fence} (hd : F.depth = none) (k : Nat) : F.room k := fun d h => by rw [hd] at h; cases h
theorem roundIn_any {F : Fence} (hd : F.depth = none) {m m' : Nat} {P : Program} {l : Nat} {f : FuncId} {tmps : Array Value} {assign body : Code} {w : World} {R : Ending → World → Prop}
    (h : RoundIn F m P l f tmps assign body w R) : RoundIn F m' P l f tmps assign body w R := ⟨h.1, fun c cs _ => h.2 c cs (room_none hd _)⟩
theorem yieldAt_any {F : Fence} (hd : F.depth = none) {m : Nat} (m' : Nat) {P : Program} {l : Nat} {args : Array Value} {W : World} {R : Ending → World → Prop} (h : YieldAt F m P l args W R) : YieldAt F m' P l args W R := by
  obtain ⟨fn, tmps, assign, body, hy, hR⟩ := h
  exact ⟨fn, tmps, assign, body, hy, roundIn_any hd hR⟩
abbrev encE (x : E) : Value := .agg #[.int .i64 x.a, .int .i64 x.n, .int .i64 x.s]
set_option maxHeartbeats 4000000 in
theorem walk_yield (F : Fence) (hF : F = Fence.wide) (l : Nat) (w0 : World) (N : Nat) (J Jx : List E → World → Prop)
    (hY : ∀ m pre x W, J pre W → Below w0.heap.size w0 W → pre.length < N → YieldAt F m Tryz.prog l #[encE x] W fun e W' =>
      (e = .returned (.bool true) ∧ J (pre ++ [x]) W' ∧ Below w0.heap.size W W') ∨ (e = .returned (.bool false) ∧ Jx (pre ++ [x]) W')) (t : Tr) :
    ∀ (n : Nat) (v : Value) (pre : List E) (W : World), IsTr w0 v t → Below w0.heap.size w0 W → J pre W → pre.length + t.toL.length ≤ N →
      CallsIn F n Tryz.prog 136 #[v, .func (.yield l) #[] #[]] W fun e W' =>
        (e = .returned (.bool true) ∧ J (pre ++ t.toL) W' ∧ Below w0.heap.size W W') ∨ (e = .returned (.bool false) ∧ ∃ q, q <+: t.toL ∧ Jx (pre ++ q) W') := by
  have hd : F.depth = none := by rw [hF]; rfl
  have hf : F.fn 136 := by rw [hF]; exact trivial
  have hro : F.round = none := by rw [hF]; rfl
  have HFF := Lib.hid hF
  clear hF
  induction t with
  | nil =>
    intro n v pre W ht _ hJ _
    have hF := HFF.out
    subst hF
    obtain rfl : v = .pointer none := ht
    refine callsIn_wide.2 ?_
    go_enter Tryz.func136, Tryz.ntmps136
    go_wp2_with fail
    go_ret
    exact .inl ⟨rfl, by simpa [Tr.toL] using hJ, Below.refl _ _⟩
  | node tl x tr ihl ihr =>
    intro n v pre W ht hB0 hJ hN
    obtain ⟨b, vl, vr, rfl, hn, hl, hr⟩ := ht
    obtain ⟨al, rfl⟩ := hl.form
    obtain ⟨ar, rfl⟩ := hr.form
    have hdd : ∀ k : Nat, (F.depth.isSome = true → 1 ≤ k) := fun k h => by rw [hd] at h; cases h
    simp only [Tr.toL, List.length_append, List.length_cons] at hN
    have z3 := hB0.keep hn.l
    have hy2 : ∀ W1, J (pre ++ tl.toL) W1 → Below w0.heap.size W W1 → YieldAt F (n - 1) Tryz.prog l #[encE x] W1 fun e W2 =>
        (e = .returned (.bool true) ∧ J (pre ++ tl.toL ++ [x]) W2 ∧ Below w0.heap.size W W2 ∧ W2.cell? ⟨b, 4, none⟩ = some (.pointer ar)) ∨ (e = .returned (.bool false) ∧ Jx (pre ++ tl.toL ++ [x]) W2) := fun W1 hJ1 hb1 =>
      YieldAt.mono (hY (n - 1) _ x W1 hJ1 (hB0.trans hb1) (by simp; omega)) fun e W2 h => h.elim
        (fun ⟨he, hj, hb2⟩ => .inl ⟨he, hj, hb1.trans hb2, (hB0.trans (hb1.trans hb2)).keep hn.r⟩) .inr
    have ih1 := (ihl (n - 1) (.pointer al) pre W hl hB0 hJ (by omega)).mono (R' := fun e W1 =>
        (e = .returned (.bool true) ∧ W1.cell? ⟨b, 0, none⟩ = some (.int .i64 x.a) ∧ W1.cell? ⟨b, 1, none⟩ = some (.int .i64 x.n) ∧ W1.cell? ⟨b, 2, none⟩ = some (.int .i64 x.s) ∧ YieldAt F (n - 1) Tryz.prog l #[encE x] W1 fun e W2 =>
          (e = .returned (.bool true) ∧ J (pre ++ tl.toL ++ [x]) W2 ∧ Below w0.heap.size W W2 ∧ W2.cell? ⟨b, 4, none⟩ = some (.pointer ar)) ∨ (e = .returned (.bool false) ∧ Jx (pre ++ tl.toL ++ [x]) W2)) ∨
        (e = .returned (.bool false) ∧ ∃ q, q <+: tl.toL ∧ Jx (pre ++ q) W1))
      (fun e W1 h => h.elim (fun ⟨he, hj, hb1⟩ => .inl ⟨he, (hB0.trans hb1).keep hn.a, (hB0.trans hb1).keep hn.n, (hB0.trans hb1).keep hn.s, hy2 W1 hj hb1⟩) .inr)
    have IHR := Lib.hid ihr
    have HR := Lib.hid hr
    have HB0 := Lib.hid hB0
    clear hy2 ihl ihr hr hn hl hB0
    refine callsIn_of_wp Tryz.func136 rfl hf ?_ hro
    simp only [Tryz.ntmps136, List.size_toArray, List.length_cons, List.length_nil, Nat.reduceAdd, Nat.reduceSub, Array.replicate_succ, Array.replicate_zero, List.push_toArray, List.append_toArray, List.nil_append, List.cons_append]
    gi_wp2_with (first
      | ((try refine ⟨hdd _, ?_⟩); gi_at_call 136; refine ih1.mono ?_; clear ih1; rintro e W1 (⟨rfl, c0', c1', c2', fn, tmps, assign, body, hy, hR⟩ | ⟨rfl, q, hq, hx1⟩))
      | ((try refine ⟨hdd _, ?_⟩); refine hR.mono ?_; clear hR; rintro e W2 (⟨rfl, hJ2, hb2, c2'⟩ | ⟨rfl, hx2⟩))
      | ((try refine ⟨hdd _, ?_⟩); gi_at_call 136; refine (IHR.out (n - 1) (.pointer ar) _ _ HR.out (HB0.out.trans hb2) hJ2 (by simp; omega)).mono ?_; rintro e W3 (⟨rfl, hJ3, hb3⟩ | ⟨rfl, q, hq, hx3⟩)))
    · go_ret
      exact .inl ⟨rfl, by simpa [Tr.toL, List.append_assoc] using hJ3, hb2.trans hb3⟩
    · go_ret
      obtain ⟨r, hr'⟩ := hq
      exact .inr ⟨rfl, tl.toL ++ x :: q, ⟨r, by simp [Tr.toL, ← hr']⟩, by simpa [List.append_assoc] using hx3⟩
    · go_ret
      exact .inr ⟨rfl, tl.toL ++ [x], ⟨tr.toL, by simp [Tr.toL]⟩, by simpa [List.append_assoc] using hx2⟩
    · refine ⟨fun _ h => (by cases h), ?_⟩
      gi_wp2
      go_ret
      exact .inr ⟨rfl, q, hq.trans (by simp [Tr.toL]), hx1⟩
set_option maxHeartbeats 1000000 in
theorem all1_yield (F : Fence) (hF : F = Fence.wide) (n l Bt : Nat) (w0 : World) (a : Option Addr) (t : Tr) (J Jx : List E → World → Prop)
    (hY : ∀ pre x W, J pre W → pre.length < t.toL.length → YieldAt F (n - 1) Tryz.prog l #[encE x] W fun e W' =>
      (e = .returned (.bool true) ∧ J (pre ++ [x]) W' ∧ Below w0.heap.size W W') ∨ (e = .returned (.bool false) ∧ Jx (pre ++ [x]) W'))
    (W : World) (hB : Below w0.heap.size w0 W) (hc : W.cell? ⟨Bt, 0, none⟩ = some (.pointer a)) (ht : IsTr w0 (.pointer a) t) (h0 : J [] W) :
    CallsIn F n Tryz.prog 135 #[.func (.yield l) #[] #[], .pointer (some ⟨Bt, 0, none⟩)] W fun e W' => (∃ v, e = .returned v) ∧
      ((∃ ys, ys = t.toL ∧ J ys W') ∨ (∃ pre, pre <+: t.toL ∧ Jx pre W')) := by
  have hd : F.depth = none := by rw [hF]; rfl
  have hf : F.fn 135 := by rw [hF]; exact trivial
  have hro : F.round = none := by rw [hF]; rfl
  have hdd : ∀ k : Nat, (F.depth.isSome = true → 1 ≤ k) := fun k h => by rw [hd] at h; cases h
  have hp := walk_yield F hF l w0 t.toL.length J Jx (fun m pre x W hj _ hl => yieldAt_any hd m (hY pre x W hj hl)) t (n - 1) (.pointer a) [] W ht hB h0 (by simp)
  have hfw : F.fn 136 := by rw [hF]; exact trivial
  clear hY hF
  refine callsIn_of_wp Tryz.func135 rfl hf ?_ hro
  simp only [Tryz.ntmps135, List.size_toArray, List.length_cons, List.length_nil, Nat.reduceAdd, Nat.reduceSub, Array.replicate_succ, Array.replicate_zero, List.push_toArray, List.append_toArray, List.nil_append, List.cons_append]
  gi_wp2_with ((try refine ⟨hdd _, ?_⟩); gi_at_call 136; refine hp.mono ?_; clear hp; rintro e W1 (⟨rfl, hJ1, _⟩ | ⟨rfl, q, hq, hx⟩))
  · go_end0
    exact ⟨⟨_, rfl⟩, .inl ⟨_, rfl, by simpa using hJ1⟩⟩
  · go_end0
    exact ⟨⟨_, rfl⟩, .inr ⟨q, hq, by simpa using hx⟩⟩
theorem all_stops (F : Fence) (hF : F = Fence.wide) (n Bt : Nat) (a : Option Addr) (t : Tr) (w : World) (hBt : Bt < w.heap.size) (hc : w.cell? ⟨Bt, 0, none⟩ = some (.pointer a)) (ht : IsTr w (.pointer a) t) :
    SeqStopsK F n Tryz.prog 135 #[.pointer (some ⟨Bt, 0, none⟩)] (fun x : E => #[encE x]) (Below w.heap.size) (fun ys => ys = t.toL) (fun pre => pre <+: t.toL) t.toL.length w := fun l J Jx W hW _ _ hY h0 =>
  all1_yield F hF n l Bt w a t J Jx hY W hW ((hW.cell (p := ⟨Bt, 0, none⟩) hBt).trans hc) ht h0
set_option maxHeartbeats 1000000 in
theorem all_is (a : Option Addr) (w : World) : Calls Tryz.prog 105 #[.agg #[.pointer a]] w fun e w' => e = .returned (.func (.func 135) #[] #[.pointer (some ⟨w.heap.size, 0, none⟩)]) ∧ w' = w.alloc (.cells #[.pointer a] 112) := by
  go_enter Tryz.func105, Tryz.ntmps105
  go_wp2
  go_ret
  exact ⟨rfl, rfl⟩
theorem cells3_own {Bx : Nat} {cs : Array Value} {e : TypeId} {fr : Nat × Nat} {X Y : World} {row : Option Nat} (h : X.heap[Bx]? = some (.cells cs e fr)) (hg : X.grownBy Y row) (hr : ∀ r, row = some r → ∃ o : Obj, X.heap[r]? = some o ∧ o.isCells = false) : Y.heap[Bx]? = some (.cells cs e fr) := by
  refine (hg.block Bx (Array.getElem?_eq_some_iff.1 h).1 fun e' => ?_).trans h
  obtain ⟨o, ho, hc⟩ := hr Bx e'.symm
  rw [h] at ho
  cases ho
  cases hc
set_option maxHeartbeats 8000000 in
theorem appendSeq_in (F : Fence) (hF : F = Fence.wide) (n : Nat) (hn : 3 ≤ n) (Bt : Nat) (a : Option Addr) (t : Tr) (w : World) (hBt : Bt < w.heap.size) (hc : w.cell? ⟨Bt, 0, none⟩ = some (.pointer a)) (ht : IsTr w (.pointer a) t) (hlen : t.toL.length ≤ 1000000000) :
    CallsIn F n Tryz.prog 134 #[.slice none 0 0, .func (.func 135) #[] #[.pointer (some ⟨Bt, 0, none⟩)]] w fun e w' => ∃ sv, e = .returned sv ∧ OwnE w' w.heap.size sv t.toL ∧ Below w.heap.size w w' := by
  have hf : F.fn 134 := by rw [hF]; exact trivial
  have hfa : F.fn 135 := by rw [hF]; exact trivial
  have hro : F.round = none := by rw [hF]; rfl
  have HF := Lib.hid hF
  clear hF
  have h1 : 1 ≤ n := by omega
  obtain ⟨i0, hi, hz0, hz1, hz2⟩ := info_parts infoE
  refine callsIn_of_wp_marks Tryz.func134 rfl hf ?_ hro
  simp only [Tryz.ntmps134, List.size_toArray, List.length_cons, List.length_nil, Nat.reduceAdd, Nat.reduceSub, Array.replicate_succ, Array.replicate_zero, List.push_toArray, List.append_toArray, List.nil_append, List.cons_append]
  gi_wp2
  have bO := Boxed.new w 51 (.slice none 0 0)
  have hB0 : Below w.heap.size w (w.alloc (.cells #[.slice none 0 0] 51)) := (Below.refl _ w).alloc (Nat.le_refl _) _
  refine wpIn_rangeFunc_ownH hro h1 (gf := 135) (lb := #[.pointer (some ⟨Bt, 0, none⟩)]) rfl hfa (enters_of Tryz.func135 (by kernel_rfl) rfl)
    (all_stops F HF.out (n - 1) Bt a t w hBt hc ht) belowK_t (belowK_b (by simp)) hB0 (fun _ => rfl)
    (fun pre W => (∃ v, Boxed W w.heap.size 51 v ∧ W.ownsRow w.heap.size 65 3 v pre.length (cellsL pre) ∧ True) ∧ Below w.heap.size w W)
    (fun _ _ _ => False)
    (OwnFrom.and (Own.from (holdsRow_own w.heap.size w.heap.size 51 65 3 (fun pre => List.length pre) (fun pre => cellsL pre) (fun _ _ => True)) _) (ownFrom_below (Nat.le_refl _) (by simp)))
    (fun _ _ _ _ _ hs _ _ => hs)
    ⟨⟨_, bO, World.ownsRow_nil _ _ _ _, trivial⟩, hB0⟩
    (fun x a' W => ∃ Bx, w.heap.size < Bx ∧ W.heap[Bx]? = some (.cells #[.int .i64 x.a, .int .i64 x.n, .int .i64 x.s] 65 (0, 0)) ∧ a' = { tmps := #[.slice none 0 0, .func (.func 135) #[] #[.pointer (some ⟨Bt, 0, none⟩)], .pointer (some ⟨w.heap.size, 0, none⟩), undef, .slice none 0 0, .pointer (some ⟨Bx, 0, none⟩), .func (.func 135) #[] #[.pointer (some ⟨Bt, 0, none⟩)], encE x, undef, undef, undef, undef, undef], defers := [] })
    (fun x a' _ X Y row hs hg hr => by obtain ⟨Bx, h1, h2, h3⟩ := hs; exact ⟨Bx, h1, cells3_own h2 hg (fun r e => (hr r e).2), h3⟩)
    ?assign ?body ?done ?stop
  case assign =>
    rintro l pre x W K ⟨⟨v, hv, hrow, _⟩, hB⟩ hK
    gi_wp2
    exact hK _ _ ((KeepsOthers.alloc _ _).from _) ((Below.refl _ W).alloc hB.size _) ⟨⟨v, hv.alloc _, World.ownsRow.alloc hrow _, trivial⟩, hB.alloc hB.size _⟩ ⟨W.heap.size, hv.lt, World.alloc_heap_new W _, rfl⟩
  case body =>
    rintro l pre x a' W hl ⟨r, hr⟩ ⟨⟨v, hv, hrow, _⟩, hB⟩ ⟨Bx, hBx, hX, rfl⟩ hlt
    have hc0 := hv.cell
    have x0 : W.cell? ⟨Bx, 0, none⟩ = some (.int .i64 x.a) := by simp [World.cell?, hX]
    have x1 : W.cell? ⟨Bx, 1, none⟩ = some (.int .i64 x.n) := by simp [World.cell?, hX]
    have x2 : W.cell? ⟨Bx, 2, none⟩ = some (.int .i64 x.s) := by simp [World.cell?, hX]
    have HHX := Lib.hid hX
    have hsz := hB.size
    clear hX hr
    gi_wp2_with (gi_at_builtin; refine wpListIn_append_own _ rfl _ _ 51 rfl w.heap.size 65 i0 (.agg #[.int .i64 0, .int .i64 0, .int .i64 0]) 3 24 Tryz.underlying51 hi hz0 hz1 hz2 rfl (by decide) _ _ _ rfl (World.ownsRow.alloc hrow _) ⟨W.heap.size, 0, none⟩ 1 1 (E.cells x) rfl rfl (newE _ _ rfl _ _) (cellsE_one _) (by simp only [maxLen]; omega) (by omega) (by have := hB.size; simp; omega) ?_; intro v' w1 hown' hgrow _; obtain ⟨g', cap', rfl⟩ := ownsRow_succ hown'; obtain ⟨hv1, hv2, hr2, hk2, hb2⟩ := hv.appended (by decide) hrow hB.size (Nat.le_refl _) hown' hgrow; have hc1 := hv1.cell; have hf1 := hv1.frozen)
    exact ⟨hk2.from _, hb2, ⟨_, hv2, OwnE.snoc hr2 rfl, trivial⟩, hB.trans hb2⟩
  case done =>
    rintro D ys W hD rfl ⟨⟨v, hv, hrow, _⟩, hB⟩ hK
    have hc1 := hv.cell
    gi_wp2
    refine ⟨by simp, .inl ⟨_, _, rfl, run_takeDeferred hK, ?_⟩⟩
    exact ⟨_, results_tmp rfl _ _ _, v, rfl, ownsRow_putObj hrow _ hK rfl, hB.trans (belowK_b (w := w) (Nat.le_refl _) W D _ _ (by simp at hD; omega) hK rfl rfl)⟩
  case stop =>
    rintro D c pre W _ _ h _
    exact h.elim
set_option maxHeartbeats 2000000 in
theorem collect_is (Bt : Nat) (a : Option Addr) (t : Tr) (w : World) (hBt : Bt < w.heap.size) (hc : w.cell? ⟨Bt, 0, none⟩ = some (.pointer a)) (ht : IsTr w (.pointer a) t) (hlen : t.toL.length ≤ 1000000000) :
    Calls Tryz.prog 104 #[.func (.func 135) #[] #[.pointer (some ⟨Bt, 0, none⟩)]] w fun e w' => ∃ sv, e = .returned sv ∧ OwnE w' w.heap.size sv t.toL ∧ Below w.heap.size w w' := by
  have hA := callsIn_wide.1 (appendSeq_in Fence.wide rfl 6 (by omega) Bt a t w hBt hc ht hlen)
  clear hc ht
  go_enter Tryz.func104, Tryz.ntmps104
  go_wp2_with fail
  refine hA.mono ?_
  rintro e w1 ⟨sv, rfl, ho, hb⟩
  obtain ⟨sa, sc, rfl, _⟩ := ho.rd (by omega)
  have HO := Lib.hid ho
  have HB := Lib.hid hb
  clear ho hb
  go_wp2_with fail
  go_ret
  exact ⟨_, rfl, HO.out, HB.out⟩
set_option maxHeartbeats 2000000 in
theorem extents_is (n r : Int) (a : Option Addr) (t : Tr) (w : World) (ht : IsTr w (.pointer a) t) (hlen : t.toL.length ≤ 1000000000) :
    Calls Tryz.prog 69 #[.agg #[.int .i64 n, .int .i64 r, .pointer a]] w fun e w' => ∃ sv, e = .returned sv ∧ OwnE w' w.heap.size sv t.toL ∧ Below w.heap.size w w' := by
  have HT := Lib.hid ht
  clear ht
  go_enter Tryz.func69, Tryz.ntmps69
  go_wp2_with fail
  refine (all_is a _).mono ?_
  rintro e w1 ⟨rfl, rfl⟩
  have hb : Below w.heap.size w ((w.alloc (.cells #[.int .i64 n, .int .i64 r, .pointer a] 114)).alloc (.cells #[.pointer a] 112)) := by (repeat (first | exact Below.refl _ _ | assumption | refine Below.onNext ?_ _ | refine Below.onAlloc ?_ _ | refine Below.setCell ?_ (by simp) _ | refine Below.drew ?_))
  have HB := Lib.hid hb
  clear hb
  go_wp2_with fail
  refine (collect_is (w.heap.size + 1) a t _ (by simp) (by rw [World.cell?_alloc_at (hn := by simp)]; rfl) (IsTr.keep HB.out t HT.out) hlen).mono ?_
  rintro e w2 ⟨sv, rfl, ho, hb2⟩
  obtain ⟨sa, sc, rfl, _⟩ := ho.rd (by omega)
  have HO := Lib.hid ho
  have HB2 := Lib.hid (HB.out.on hb2)
  clear ho hb2
  go_wp2_with fail
  go_ret
  exact ⟨_, rfl, OwnE.mono HO.out (by simp; omega), HB2.out⟩
end Go.Proofs.YtpakjddfnhnndaaGreat
