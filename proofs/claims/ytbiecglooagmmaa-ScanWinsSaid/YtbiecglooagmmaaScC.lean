/-
  Valid entries, both sides.
  Conditions: as each theorem says.
-/
import Derived.Test.YtbiecglooagmmaaScP
import Derived.Test.YtbiecglooagmmaaSA
import Derived.ChangeKeysEq
namespace Go.Proofs.Ytbiecglooagmmaa
set_option linter.unusedSimpArgs false
set_option linter.unusedVariables false
set_option maxRecDepth 100000
open Go.RowKit

abbrev Ent.arr (e : Ent) : Value := .agg #[byV e.d0, byV e.d1, byV e.d2, byV e.d3, byV e.d4, byV e.d5, byV e.d6, byV e.d7]
abbrev Ent.v (e : Ent) : Value := .agg #[.int .i64 e.kind, .int .i64 e.block, .int .u64 e.ver, byV e.d0, byV e.d1, byV e.d2, byV e.d3, byV e.d4, byV e.d5, byV e.d6, byV e.d7]
theorem arr_equalIn (x y : Array UInt8) (hx : x.size = 8) (hy : y.size = 8) (d : Nat) (w : World) : (Op.equalIn (d + 2) 39 (.agg (x.map byV)) (.agg (y.map byV))).run Try.prog w = .ok (x == y) w := by
  obtain ⟨i0, hi, _, hz1, _⟩ := info_parts infoY
  have hsz : ∀ w, (sizeOf 5).run Try.prog w = .ok 1 w := fun w => by
    rw [run_sizeOf w hi]
    congr 1
  rw [Op.equalIn]
  simp only [Sem.run_bind, run_underlying Try.underlying39, Result.andThen_ok, hsz, Std.Legacy.Range.forIn_eq_forIn_range', Std.Legacy.Range.size, Nat.sub_zero, Nat.add_sub_cancel, Nat.div_one]
  have hl : ∀ i ∈ List.range' 0 8 1, i < 8 := fun i hi => by simpa using (List.mem_range'_1.1 hi).2
  have hp : ∀ (z : Array UInt8), z.size = 8 → ∀ i, i < 8 → ∀ w, (part 5 (z.map byV) (i * 1)).run Try.prog w = .ok (byV (z.getD i 0)) w := fun z hz i hi w => by
    simp [part, isAgg, run_underlying Try.underlying5, hz, hi]
  have key : ∀ l : List Nat, (∀ i ∈ l, i < 8) → (forIn (m := Sem) l ((none, ()) : Option Bool × Unit) fun i __s => do
      let __do_lift ← part 5 (x.map byV) (i * 1)
      let __do_lift_1 ← part 5 (y.map byV) (i * 1)
      let __do_lift ← Op.equalIn (d + 1) 5 __do_lift __do_lift_1
      if (!__do_lift) = true then pure (ForInStep.done (some false, ())) else pure (ForInStep.yield (none, ()))).run Try.prog w = .ok (if l.all (fun i => x.getD i 0 == y.getD i 0) then none else some false, ()) w := by
    intro l
    induction l with
    | nil => intro _; simp
    | cons i l ih =>
      intro h
      have hi8 := h i (by simp)
      have pe : (Op.equalIn (d + 1) 5 (byV (x.getD i 0)) (byV (y.getD i 0))).run Try.prog w = .ok (x.getD i 0 == y.getD i 0) w := by
        unfold byV
        rw [run_equalIn_int w d 5 .u8 .u8 _ _ Try.underlying5]
        congr 1
        rw [Bool.eq_iff_iff]
        simp only [beq_iff_eq]
        constructor
        · intro e
          exact UInt8.toNat_inj.1 (by omega)
        · intro e
          rw [e]
      obtain ⟨B, hB⟩ : ∃ B, (x.getD i 0 == y.getD i 0) = B := ⟨_, rfl⟩
      rw [hB] at pe
      simp only [List.forIn_cons, Sem.run_bind, hp x hx i hi8, hp y hy i hi8, pe, Result.andThen_ok, List.all_cons, hB]
      cases B
      · simp
      · simp only [Bool.not_true, Bool.false_eq_true, if_false, Sem.run_pure, Result.andThen_ok, Bool.true_and]
        exact ih fun j hj => h j (by simp [hj])
  rw [key _ hl]
  have hall : (List.range' 0 8 1).all (fun i => x.getD i 0 == y.getD i 0) = (x == y) := by
    rw [Bool.eq_iff_iff]
    simp only [beq_iff_eq, List.all_eq_true]
    constructor
    · intro h
      apply Array.ext (by rw [hx, hy])
      intro i h1 h2
      have := h i (List.mem_range'_1.2 ⟨by omega, by omega⟩)
      simpa [Array.getD, h1, h2] using this
    · intro e i _
      rw [e]
  rw [← hall]
  cases (List.range' 0 8 1).all (fun i => x.getD i 0 == y.getD i 0) <;> simp
theorem arr_blank (e : Ent) (d : Nat) (w : World) : (Op.equalIn (d + 2) 39 e.arr (.agg #[.int .u8 0, .int .u8 0, .int .u8 0, .int .u8 0, .int .u8 0, .int .u8 0, .int .u8 0, .int .u8 0])).run Try.prog w = .ok e.blank w := by
  have h := arr_equalIn #[e.d0, e.d1, e.d2, e.d3, e.d4, e.d5, e.d6, e.d7] #[0, 0, 0, 0, 0, 0, 0, 0] rfl rfl d w
  have hb : (#[e.d0, e.d1, e.d2, e.d3, e.d4, e.d5, e.d6, e.d7] == (#[0, 0, 0, 0, 0, 0, 0, 0] : Array UInt8)) = e.blank := by
    unfold Ent.blank Ent.data
    rw [Bool.eq_iff_iff]
    simp [List.replicate]
  rw [hb] at h
  simp only [List.map_toArray, List.map_cons, List.map_nil] at h
  exact h
theorem arr_run (e : Ent) (w : World) : (binOp .eql 39 e.arr (.agg #[.int .u8 0, .int .u8 0, .int .u8 0, .int .u8 0, .int .u8 0, .int .u8 0, .int .u8 0, .int .u8 0])).run Try.prog w = .ok (.bool e.blank) w := by
  have h : (Op.equal 39 e.arr (.agg #[.int .u8 0, .int .u8 0, .int .u8 0, .int .u8 0, .int .u8 0, .int .u8 0, .int .u8 0, .int .u8 0])).run Try.prog w = .ok e.blank w := arr_blank e 9998 w
  simp only [binOp]
  simp [h]
def okEB (kind block ver : Int) (bl : Bool) : Bool := decide (0 ≤ block ∧ block < 65536 ∧ 1 ≤ ver) && (decide (kind = 1) || (decide (kind = 2) && bl))
theorem okEB_ends {r : Bool} {kind block ver : Int} {bl : Bool} (h : r = okEB kind block ver bl) : Ending.returned (.bool r) = .returned (.bool (okEB kind block ver bl)) := by rw [h]
set_option maxRecDepth 100000 in
set_option maxHeartbeats 1000000 in
theorem svalid_any (e : Ent) (w : World) :
    Calls Try.prog 36 #[e.v] w fun r w' => r = .returned (.bool e.ok) ∧ Below w.heap.size w w' := by
  have hq := fun W => arr_run e W
  obtain ⟨kind, block, ver, d0, d1, d2, d3, d4, d5, d6, d7⟩ := e
  obtain ⟨bl, hbl⟩ : ∃ b, Ent.blank ⟨kind, block, ver, d0, d1, d2, d3, d4, d5, d6, d7⟩ = b := ⟨_, rfl⟩
  rw [hbl] at hq
  have hok : Hid (Ent.ok ⟨kind, block, ver, d0, d1, d2, d3, d4, d5, d6, d7⟩ = okEB kind block ver bl) := Lib.hid (by unfold Ent.ok okEB; rw [hbl])
  have hbb := Lib.hid (fun C => (Below.refl w.heap.size w).onAlloc (.cells C 41))
  rw [hok.out]
  unfold Ent.v
  unfold Ent.arr at hq
  simp only at hq ⊢
  clear hbl hok
  go_enter Try.func36, Try.ntmps36
  go_wp2
  all_goals
    go_ret
    refine ⟨okEB_ends ?_, hbb.out _⟩
    unfold okEB
    simp_all
    try first | rfl | omega
set_option maxRecDepth 100000 in
set_option maxHeartbeats 1000000 in
theorem revalid_any (e : Ent) (w : World) :
    Calls Try.prog 31 #[e.v] w fun r w' => r = .returned (.bool e.ok) ∧ Below w.heap.size w w' := by
  have hq := fun W => arr_run e W
  obtain ⟨kind, block, ver, d0, d1, d2, d3, d4, d5, d6, d7⟩ := e
  obtain ⟨bl, hbl⟩ : ∃ b, Ent.blank ⟨kind, block, ver, d0, d1, d2, d3, d4, d5, d6, d7⟩ = b := ⟨_, rfl⟩
  rw [hbl] at hq
  have hok : Hid (Ent.ok ⟨kind, block, ver, d0, d1, d2, d3, d4, d5, d6, d7⟩ = okEB kind block ver bl) := Lib.hid (by unfold Ent.ok okEB; rw [hbl])
  have hbb := Lib.hid (fun C => (Below.refl w.heap.size w).onAlloc (.cells C 41))
  rw [hok.out]
  unfold Ent.v
  unfold Ent.arr at hq
  simp only at hq ⊢
  clear hbl hok
  go_enter Try.func31, Try.ntmps31
  go_wp2
  all_goals
    go_ret
    refine ⟨okEB_ends ?_, hbb.out _⟩
    unfold okEB
    simp_all
    try first | rfl | omega
end Go.Proofs.Ytbiecglooagmmaa
