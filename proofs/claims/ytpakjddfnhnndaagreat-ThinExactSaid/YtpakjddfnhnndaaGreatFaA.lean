/-
  package extree: trees in memory; deep, size, mapped, build.
  Conditions: as each theorem says.
-/
import Derived.Test.YtpakjddfnhnndaaGreatGA
import Derived.Test.YtpakjddfnhnndaaGreatGC
import Derived.Test.YtpakjddfnhnndaaGreatGD
namespace Go.Proofs.YtpakjddfnhnndaaGreat
set_option linter.unusedSimpArgs false
set_option linter.unusedVariables false
set_option maxRecDepth 100000
open Go.RowKit

def Tr.blocks (t : Tr) : Int := lenL t.toL
theorem Tr.blocks_node (l r : Tr) (x : E) : (Tr.node l x r).blocks = l.blocks + x.n + r.blocks := by
  show lenL (l.toL ++ x :: r.toL) = lenL l.toL + x.n + lenL r.toL
  unfold lenL
  rw [List.map_append, List.map_cons, List.sum_append, List.sum_cons]
  omega
/-- The cells of a node. -/
structure NodeAt (w : World) (b : Nat) (x : E) (vl vr : Value) (dp ct : Nat) (mp : Int) : Prop where
  a : w.cell? ⟨b, 0, none⟩ = some (.int .i64 x.a)
  n : w.cell? ⟨b, 1, none⟩ = some (.int .i64 x.n)
  s : w.cell? ⟨b, 2, none⟩ = some (.int .i64 x.s)
  l : w.cell? ⟨b, 3, none⟩ = some vl
  r : w.cell? ⟨b, 4, none⟩ = some vr
  d : w.cell? ⟨b, 5, none⟩ = some (.int .i64 dp)
  c : w.cell? ⟨b, 6, none⟩ = some (.int .i64 ct)
  m : w.cell? ⟨b, 7, none⟩ = some (.int .i64 mp)
theorem NodeAt.keep {w w' : World} (h : Below w.heap.size w w') {b : Nat} {x : E} {vl vr : Value} {d n : Nat} {m : Int} (ha : NodeAt w b x vl vr d n m) : NodeAt w' b x vl vr d n m :=
  ⟨h.keep ha.a, h.keep ha.n, h.keep ha.s, h.keep ha.l, h.keep ha.r, h.keep ha.d, h.keep ha.c, h.keep ha.m⟩
/-- The pointer v is the tree t. -/
def IsTr (w : World) : Value → Tr → Prop
  | v, .nil => v = .pointer none
  | v, .node l x r => ∃ b vl vr, v = .pointer (some ⟨b, 0, none⟩) ∧ NodeAt w b x vl vr (Tr.node l x r).deep (Tr.node l x r).size (Tr.node l x r).blocks ∧ IsTr w vl l ∧ IsTr w vr r
theorem IsTr.keep {w w' : World} (h : Below w.heap.size w w') (t : Tr) : ∀ {v : Value}, IsTr w v t → IsTr w' v t := by
  induction t with
  | nil => exact fun hv => hv
  | node l x r ihl ihr =>
    rintro v ⟨b, vl, vr, hv, hn, hl, hr⟩
    exact ⟨b, vl, vr, hv, hn.keep h, ihl hl, ihr hr⟩
theorem IsTr.form {w : World} {v : Value} {t : Tr} (h : IsTr w v t) : ∃ a, v = .pointer a := by
  cases t with
  | nil => exact ⟨none, h⟩
  | node l x r => obtain ⟨b, _, _, hv, _⟩ := h; exact ⟨_, hv⟩
/-- What all trees here keep to: extents in range, not too many. -/
def Tr.ok (t : Tr) : Prop := (∀ x ∈ t.toL, okB x = true) ∧ t.size ≤ 1000000
theorem Tr.ok_left {l r : Tr} {x : E} (h : (Tr.node l x r).ok) : l.ok := ⟨fun y hy => h.1 y (by simp [Tr.toL, hy]), by have := h.2; rw [Tr.size_node] at this; omega⟩
theorem Tr.ok_right {l r : Tr} {x : E} (h : (Tr.node l x r).ok) : r.ok := ⟨fun y hy => h.1 y (by simp [Tr.toL, hy]), by have := h.2; rw [Tr.size_node] at this; omega⟩
theorem Tr.ok_mid {l r : Tr} {x : E} (h : (Tr.node l x r).ok) : okB x = true := h.1 x (by simp [Tr.toL])
theorem Tr.blocks_bd {t : Tr} (h : t.ok) : 0 ≤ t.blocks ∧ t.blocks ≤ 65536000000 := by
  obtain ⟨h1, h2⟩ := lenL_bound t.toL h.1
  have := h.2
  unfold Tr.size at this
  exact ⟨h1, by unfold Tr.blocks; omega⟩
set_option maxRecDepth 100000 in
set_option maxHeartbeats 1000000 in
theorem deep_any (t : Tr) (v : Value) (w : World) (h : IsTr w v t) : Calls Tryz.prog 157 #[v] w fun e w' => e = .returned (.int .i64 t.deep) ∧ Below w.heap.size w w' := by
  cases t with
  | nil =>
    obtain rfl : v = .pointer none := h
    go_enter Tryz.func157, Tryz.ntmps157
    go_wp2
    go_ret
    exact ⟨rfl, Below.refl _ _⟩
  | node l x r =>
    obtain ⟨b, vl, vr, rfl, hn, _, _⟩ := h
    have hd := hn.d
    generalize (Tr.node l x r).deep = d at *
    go_enter Tryz.func157, Tryz.ntmps157
    go_wp2
    go_ret
    exact ⟨rfl, Below.refl _ _⟩
set_option maxRecDepth 100000 in
set_option maxHeartbeats 1000000 in
theorem tsize_any (t : Tr) (v : Value) (w : World) (h : IsTr w v t) : Calls Tryz.prog 176 #[v] w fun e w' => e = .returned (.int .i64 t.size) ∧ Below w.heap.size w w' := by
  cases t with
  | nil =>
    obtain rfl : v = .pointer none := h
    go_enter Tryz.func176, Tryz.ntmps176
    go_wp2
    go_ret
    exact ⟨rfl, Below.refl _ _⟩
  | node l x r =>
    obtain ⟨b, vl, vr, rfl, hn, _, _⟩ := h
    have hd := hn.c
    generalize (Tr.node l x r).size = d at *
    go_enter Tryz.func176, Tryz.ntmps176
    go_wp2
    go_ret
    exact ⟨rfl, Below.refl _ _⟩
set_option maxRecDepth 100000 in
set_option maxHeartbeats 1000000 in
theorem mapped_any (t : Tr) (v : Value) (w : World) (h : IsTr w v t) : Calls Tryz.prog 103 #[v] w fun e w' => e = .returned (.int .i64 t.blocks) ∧ Below w.heap.size w w' := by
  cases t with
  | nil =>
    obtain rfl : v = .pointer none := h
    go_enter Tryz.func103, Tryz.ntmps103
    go_wp2
    go_ret
    exact ⟨rfl, Below.refl _ _⟩
  | node l x r =>
    obtain ⟨b, vl, vr, rfl, hn, _, _⟩ := h
    have hd := hn.m
    generalize (Tr.node l x r).blocks = d at *
    go_enter Tryz.func103, Tryz.ntmps103
    go_wp2
    go_ret
    exact ⟨rfl, Below.refl _ _⟩

theorem deep_is (t : Tr) (d : Nat) (v : Value) (w : World) (hd : t.deep = d) (h : IsTr w v t) : Calls Tryz.prog 157 #[v] w fun e w' => e = .returned (.int .i64 d) ∧ Below w.heap.size w w' := by
  subst hd
  exact deep_any t v w h
theorem tsize_is (t : Tr) (d : Nat) (v : Value) (w : World) (hd : t.size = d) (h : IsTr w v t) : Calls Tryz.prog 176 #[v] w fun e w' => e = .returned (.int .i64 d) ∧ Below w.heap.size w w' := by
  subst hd
  exact tsize_any t v w h
theorem mapped_is (t : Tr) (d : Int) (v : Value) (w : World) (hd : t.blocks = d) (h : IsTr w v t) : Calls Tryz.prog 103 #[v] w fun e w' => e = .returned (.int .i64 d) ∧ Below w.heap.size w w' := by
  subst hd
  exact mapped_any t v w h
/-- The new tree's list. -/
def Grown (w : World) (L : List E) (e : Ending) (w' : World) : Prop := ∃ v t, e = .returned v ∧ IsTr w' v t ∧ t.toL = L ∧ Below w.heap.size w w'
set_option maxRecDepth 100000 in
set_option maxHeartbeats 4000000 in
theorem build_tree (l r : Tr) (x : E) (vl vr : Value) (w : World) (hl : IsTr w vl l) (hr : IsTr w vr r) (hok : (Tr.node l x r).ok) :
    Calls Tryz.prog 159 #[vl, .agg #[.int .i64 x.a, .int .i64 x.n, .int .i64 x.s], vr] w fun e w' => ∃ v, e = .returned v ∧ IsTr w' v (.node l x r) ∧ Below w.heap.size w w' := by
  obtain ⟨al, rfl⟩ := hl.form
  obtain ⟨ar, rfl⟩ := hr.form
  have hk := (Below.refl w.heap.size w).onAlloc (.cells #[.int .i64 x.a, .int .i64 x.n, .int .i64 x.s] 65)
  have HL := Lib.hid (IsTr.keep hk l hl)
  have HL0 := Lib.hid hl
  have HR0 := Lib.hid hr
  have HR := Lib.hid (IsTr.keep hk r hr)
  have hd1 := l.deep_le
  have hd2 := r.deep_le
  have hs := hok.2
  rw [Tr.size_node] at hs
  obtain ⟨b1, b2⟩ := Tr.blocks_bd (Tr.ok_left hok)
  obtain ⟨b3, b4⟩ := Tr.blocks_bd (Tr.ok_right hok)
  obtain ⟨c1, c2, c3, c4, c5⟩ := (okB_iff x).1 (Tr.ok_mid hok)
  have HD : Hid ((Tr.node l x r).deep = 1 + max l.deep r.deep) := Lib.hid rfl
  have HSZ := Lib.hid (Tr.size_node l r x)
  have HBL := Lib.hid (Tr.blocks_node l r x)
  obtain ⟨d1, e1⟩ : ∃ d, l.deep = d := ⟨_, rfl⟩
  obtain ⟨d2, e2⟩ : ∃ d, r.deep = d := ⟨_, rfl⟩
  obtain ⟨n1, e3⟩ : ∃ d, l.size = d := ⟨_, rfl⟩
  obtain ⟨n2, e4⟩ : ∃ d, r.size = d := ⟨_, rfl⟩
  obtain ⟨m1, e5⟩ : ∃ d, l.blocks = d := ⟨_, rfl⟩
  obtain ⟨m2, e6⟩ : ∃ d, r.blocks = d := ⟨_, rfl⟩
  rw [e1, e3] at hd1
  rw [e2, e4] at hd2
  rw [e3, e4] at hs
  rw [e5] at b1 b2
  rw [e6] at b3 b4
  have E1 := Lib.hid e1
  have E2 := Lib.hid e2
  have E3 := Lib.hid e3
  have E4 := Lib.hid e4
  have E5 := Lib.hid e5
  have E6 := Lib.hid e6
  have HK := Lib.hid hk
  clear hl hr hk hok e1 e2 e3 e4 e5 e6
  go_enter Tryz.func159, Tryz.ntmps159
  go_wp2_with fail
  refine wp_region_next_tail 23 (by kernel_rfl) (by kernel_rfl) ?_
  simp only [List.take_succ_cons, List.take_zero, List.drop_succ_cons, List.drop_zero]
  repeat (go_big_quiet_step (first | (go_at_call_of 157 (Value.pointer al); exact Calls.next_of (deep_is l d1 _ _ E1.out (IsTr.keep (World.below_next _ _) l HL.out))) | (go_at_call_of 157 (Value.pointer ar); exact Calls.next_of (deep_is r d2 _ _ E2.out (IsTr.keep (World.below_next _ _) r HR.out))) | (go_at_call_of 176 (Value.pointer al); exact Calls.next_of (tsize_is l n1 _ _ E3.out (IsTr.keep (World.below_next _ _) l HL.out))) | (go_at_call_of 176 (Value.pointer ar); exact Calls.next_of (tsize_is r n2 _ _ E4.out (IsTr.keep (World.below_next _ _) r HR.out))) | (go_at_call_of 103 (Value.pointer al); exact Calls.next_of (mapped_is l m1 _ _ E5.out (IsTr.keep (World.below_next _ _) l HL.out))) | (go_at_call_of 103 (Value.pointer ar); exact Calls.next_of (mapped_is r m2 _ _ E6.out (IsTr.keep (World.below_next _ _) r HR.out)))))
  refine wpQuiet_nil ?_
  intro _ hw'
  obtain ⟨nq, hw''⟩ := hw'
  subst hw''
  go_wp2
  all_goals go_ret
  all_goals (
    have hb := HK.out.onNext nq
    have hd := HD.out
    have hz := HSZ.out
    have hm := HBL.out
    rw [E1.out, E2.out] at hd
    rw [E3.out, E4.out] at hz
    rw [E5.out, E6.out] at hm
    generalize ((w.alloc _).next nq) = W at *
    refine ⟨_, rfl, ⟨_, _, _, rfl, ⟨by simp, by simp, by simp, by simp, by simp, ?_, ?_, ?_⟩, IsTr.keep (hb.onAlloc _) l HL0.out, IsTr.keep (hb.onAlloc _) r HR0.out⟩, hb.onAlloc _⟩
    · rw [hd, World.cell?_alloc_new]
      simp
      omega
    · rw [hz, World.cell?_alloc_new]
      simp
      omega
    · rw [hm, World.cell?_alloc_new]
      simp
      omega)
end Go.Proofs.YtpakjddfnhnndaaGreat
