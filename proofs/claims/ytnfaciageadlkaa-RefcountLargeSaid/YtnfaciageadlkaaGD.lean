/-
  The walk of the law ExtentUnique.
  Laws for copy between rows of elements of several cells, and for append of a made slice that must grow.
  slices.IndexFunc with Put's function, slices.Insert of one extent.
  extent.Put.
  The specification's Put.
  Conditions: as each theorem says.
-/
import Derived.Test.YtnfaciageadlkaaGC
import Derived.Test.YtnfaciageadlkaaGA
import Derived.Deep.CutRange
import Derived.Laws.CopyOwn
import Derived.Lib.Hide
import Derived.Deep.RegionHeld3
namespace Go.Proofs.Ytnfaciageadlkaa
set_option linter.unusedSimpArgs false
set_option linter.unusedVariables false
set_option maxRecDepth 100000
open Go.RowKit


theorem sepOf {v v' : Value} {N M : Nat} (h : ∀ j, v.ownBlock = some j → j < N) (h' : ∀ j, v'.ownBlock = some j → N ≤ j ∧ j < M) : v.ownBlock = none ∨ v.ownBlock ≠ v'.ownBlock := by
  cases hv : v.ownBlock with
  | none => exact .inl rfl
  | some j => exact .inr fun e => by have := h j hv; have := (h' j e.symm).1; omega
theorem len1 {P : Program} {f : FuncId} {a : Option Addr} {n m c : Nat} {w : World} {R : Ending → World → Prop} (hn : n = m) (h : Calls P f #[.slice a m c] w R) : Calls P f #[.slice a n c] w R := by
  subst hn; exact h
theorem cellsL_slot (l : List E) (k : Nat) (h : k < l.length) (s : Int) : (cellsL l).set (k * 3 + 2) (.int .i64 s) = cellsL (l.set k (l[k].slot s)) := by
  rw [set_split l k h]
  have e : cellsL l = cellsL (l.take k) ++ (E.cells l[k] ++ cellsL (l.drop (k + 1))) := by
    conv => lhs; rw [split_at l k h, cellsL_append]
    rfl
  have hk : (cellsL (l.take k)).length = k * 3 := by rw [cellsL_length, List.length_take, Nat.min_eq_left (by omega)]
  rw [e, cellsL_append, List.set_append_right _ _ (by rw [hk]; omega), hk, show k * 3 + 2 - k * 3 = 2 by omega]
  rfl
theorem OwnE.slot {w : World} {B g c : Nat} {l : List E} (h : OwnE w B (.slice (some ⟨g, 0, none⟩) l.length c) l) (k : Nat) (hk : k < l.length) (s : Int) :
    OwnE (w.setCell ⟨g, k * 3 + 2, none⟩ (.int .i64 s)) B (.slice (some ⟨g, 0, none⟩) l.length c) (l.set k (l[k].slot s)) ∧ w.grownBy (w.setCell ⟨g, k * 3 + 2, none⟩ (.int .i64 s)) (some g) := by
  have hst := World.ownsRow.stored h (k * 3 + 2) (.int .i64 s)
  rw [cellsL_slot l k hk s] at hst
  refine ⟨?_, hst.2⟩
  unfold OwnE
  rw [List.length_set]
  exact hst.1
theorem Rd.take {w : World} {a : Option Addr} {l : List E} (h : Rd w a l) (k : Nat) : Rd w a (l.take k) := by
  refine ⟨Nat.le_trans (List.length_take_le' ..) h.1, h.2.imp (fun e => by rw [e]; simp) fun ⟨b, o, ha, hat⟩ => ⟨b, o, ha, fun j x hj => hat j x ?_⟩⟩
  rw [List.getElem?_take] at hj
  split at hj
  · exact hj
  · cases hj
theorem Rd.drop {w : World} {b o : Nat} {l : List E} (h : Rd w (some ⟨b, o, none⟩) l) (k : Nat) : Rd w (some ⟨b, o + k * 3, none⟩) (l.drop k) := by
  refine ⟨by have := h.1; simp; omega, ?_⟩
  rcases h.2 with rfl | ⟨b', o', ha, hat⟩
  · exact .inl (by simp)
  · simp only [Option.some.injEq, Addr.mk.injEq, and_true] at ha
    obtain ⟨rfl, rfl⟩ := ha
    refine .inr ⟨_, _, rfl, fun j x hj => ?_⟩
    rw [List.getElem?_drop] at hj
    obtain ⟨c1, c2, c3⟩ := hat (k + j) x hj
    have e : b + 0 = b := rfl
    refine ⟨?_, ?_, ?_⟩
    · rw [show o + k * 3 + j * 3 = o + (k + j) * 3 by omega]; exact c1
    · rw [show o + k * 3 + j * 3 + 1 = o + (k + j) * 3 + 1 by omega]; exact c2
    · rw [show o + k * 3 + j * 3 + 2 = o + (k + j) * 3 + 2 by omega]; exact c3


end Go.Proofs.Ytnfaciageadlkaa

namespace Go
set_option linter.unusedSimpArgs false
set_option linter.unusedVariables false
set_option maxRecDepth 100000
open Go.RowKit
theorem World.grownBy.below {w w' : World} {g B : Nat} (h : w.grownBy w' (some g)) (hB : B ≤ g) (hs : B ≤ w.heap.size) : Below B w w' :=
  ⟨h.os, h.tape, h.output, h.size, fun k hk => h.block k (by omega) (by simp; omega)⟩
section
variable {P : Program} (w : World)
theorem run_copy_k (dT sT ty elem : TypeId) (i : TypeInfo) (size : Nat) (hu : P.underlying dT = some (.slice elem)) (hi : P.info? elem = some i) (hsize : i.size = size)
    (g o dLen dCap : Nat) (a : Addr) (sLen sCap : Nat) (cur : Array Value) (t : TypeId) (n : Nat) (cs : List Value)
    (hg : w.heap[g]? = some (.cells cur t (0, 0))) (hn : n = Nat.min sLen dLen) (hl : cs.length = n * size)
    (hsrc : ∀ j v, cs[j]? = some v → w.cell? (a.add j) = some v) (hfit : o + cs.length ≤ cur.size) (h1 : ∀ v ∈ cs, v.oneCell' = true) :
    (Builtin.copy_ #[dT, sT] ty #[.slice (some ⟨g, o, none⟩) dLen dCap, .slice (some a) sLen sCap]).run P w =
      .ok (goInt n) (w.setRow g (cur.toList.take o ++ cs ++ cur.toList.drop (o + cs.length)).toArray) := by
  have hld := run_loadCells_list (P := P) w a cs hsrc
  rw [hl] at hld
  have hst := run_storeCells_at P g o t cs 0 cur w hg (by simpa using hfit) h1
  simp [Builtin.copy_, run_underlying hu, Builtin.lenOf, Builtin.firstCells, sizeOf, typeInfo, hi, hsize, ← hn, hld, hst]
theorem wpList_copy_k {ops : Array Oper} {rest : List Oper} {o : Oper} {a : Act} {Q : Exit → Act → World → Prop} (hgd : o.guard = none) (d s : Operand) (dT sT : TypeId)
    (ho : o.op = .call { callee := .builtin .copy, args := #[d, s], argTypes := #[dT, sT] }) (elem : TypeId) (i : TypeInfo) (size : Nat) (hu : P.underlying dT = some (.slice elem)) (hi : P.info? elem = some i) (hsize : i.size = size)
    (g off dLen dCap : Nat) (ad : Addr) (sLen sCap : Nat) (hd : a.eval d = .slice (some ⟨g, off, none⟩) dLen dCap) (hs : a.eval s = .slice (some ad) sLen sCap)
    (cur : List Value) (t : TypeId) (n : Nat) (cs : List Value) (hg : w.heap[g]? = some (.cells cur.toArray t (0, 0))) (hn : n = Nat.min sLen dLen) (hl : cs.length = n * size)
    (hsrc : ∀ j v, cs[j]? = some v → w.cell? (ad.add j) = some v) (hfit : off + cs.length ≤ cur.length) (h1 : ∀ v ∈ cs, v.oneCell' = true)
    (h : ∀ w', Hid (w'.heap[g]? = some (.cells (splice cur off cs).toArray t (0, 0))) → w.grownBy w' (some g) → wpList P ops Q rest (a.put o.dst (goInt n)) w') : wpList P ops Q (o :: rest) a w := by
  refine wpList_plain hgd fun K hK => ?_
  have hrun := run_copy_k (P := P) w dT sT o.type elem i size hu hi hsize g off dLen dCap ad sLen sCap cur.toArray t n cs hg hn hl hsrc (by simpa using hfit) h1
  unfold Oper.wp
  simp [execOp, ho, resolve, invoke, builtin, hd, hs, hrun, Result.andThen]
  refine hK _ _ (h _ ?_ ⟨rfl, rfl, rfl, by simp [World.setRow], fun k _ hk => setRow_other w g k _ (fun e => hk (by simp [e]))⟩)
  exact show _ = _ by simpa [splice] using setRow_heap w g _ _ t _ hg
/-- append(s, make([]T, m)...) where it must grow. -/
theorem run_append_made (t ti ty e : TypeId) (k : IntKind) (i : TypeInfo) (z : Value) (ht : P.underlying t = some (.slice e)) (hti : P.underlying ti = some (.int k)) (hi : P.info? e = some i) (hz : i.zero = some z) (hzs : z.cells.size = i.size) (hpos : 0 < i.size)
    (b : Addr) (sLen sCap : Nat) (olds : List Value) (hlo : olds.length = sLen * i.size) (holds : ∀ j v, olds[j]? = some v → w.cell? (b.add j) = some v)
    (m : Nat) (hm0 : 0 < m) (hm : m ≤ 1000000000) (hby : i.bytes ≤ 1000) (hg : sCap < sLen + m) (hsl : sLen + m ≤ 1000000000) (hfit : Builtin.nextslicecap (sLen + m) sCap * i.bytes ≤ 281474976710656) :
    (Builtin.append_ #[t, ti] ty #[.slice (some b) sLen sCap, .int .i64 (m : Int)]).run P w =
      .ok (.slice (some ⟨w.heap.size, 0, none⟩) (sLen + m) (grownCap w (sLen + m) sCap e))
        (w.drew.alloc (.cells (olds.toArray ++ (Builtin.zeroCells z.cells m ++ Builtin.zeroCells z.cells (grownCap w (sLen + m) sCap e - (sLen + m)))) e)) := by
  have hn : ¬ (sLen + m ≤ sCap) := by omega
  have h63' : ¬ (9223372036854775807 < ((sLen : Int) + (m : Int))) := by omega
  have h48' : ¬ (281474976710656 < Builtin.nextslicecap (sLen + m) sCap * i.bytes) := by omega
  have hfo := run_firstCells_some (P := P) w.drew i.size sLen b sLen sCap olds hlo (by simpa using holds)
  have hw : IntKind.i64.wrap (m : Int) = (m : Int) := by rw [IntKind.wrap_i64]; omega
  have hmn : ¬ ((m : Int) < 0) := by omega
  have hmb : ¬ (281474976710656 < (m : Int) * (i.bytes : Int)) := by
    have h1 : m * i.bytes ≤ 1000000000 * 1000 := Nat.mul_le_mul hm hby
    have h2 : ((m * i.bytes : Nat) : Int) = (m : Int) * (i.bytes : Int) := Int.natCast_mul _ _
    omega
  have hms : ¬ (m * i.size = 0) := by
    intro h0
    rcases Nat.mul_eq_zero.1 h0 with h0 | h0 <;> omega
  simp [Builtin.append_, run_underlying ht, run_underlying hti, sizeOf, typeInfo, zeroValue, hi, hz, Builtin.lenOf, asInt, asIntOf, hw, hmn, hmb, hms, hn, h63', h48', Question.forced, hfo, newRow, grownCap]
theorem wpList_append_made {ops : Array Oper} {rest : List Oper} {o : Oper} {a : Act} {Q : Exit → Act → World → Prop} (hgd : o.guard = none) (s x : Operand) (t ti : TypeId)
    (ho : o.op = .call { callee := .builtin .append, args := #[s, x], argTypes := #[t, ti] })
    (e : TypeId) (k : IntKind) (i : TypeInfo) (z : Value) (size : Nat) (ht : P.underlying t = some (.slice e)) (hti : P.underlying ti = some (.int k)) (hi : P.info? e = some i) (hz : i.zero = some z) (hsize : i.size = size) (hzs : z.cells.size = size) (hpos : 0 < size)
    (b : Addr) (sLen sCap : Nat) (olds : List Value) (hs : a.eval s = .slice (some b) sLen sCap) (hlo : olds.length = sLen * size) (holds : ∀ j v, olds[j]? = some v → w.cell? (b.add j) = some v)
    (m : Nat) (hx : a.eval x = .int .i64 (m : Int)) (hm0 : 0 < m) (hm : m ≤ 1000000000) (hby : i.bytes ≤ 1000) (hg : sCap < sLen + m) (hsl : sLen + m ≤ 1000000000)
    (h : ∀ cap Z w', sLen + m ≤ cap → cap ≤ maxLen → (olds ++ Z).length = cap * size → Hid (w'.heap[w.heap.size]? = some (.cells (olds ++ Z).toArray e (0, 0))) → Below w.heap.size w w' → w.heap.size < w'.heap.size →
      wpList P ops Q rest (a.put o.dst (.slice (some ⟨w.heap.size, 0, none⟩) (sLen + m) cap)) w') : wpList P ops Q (o :: rest) a w := by
  refine wpList_plain hgd fun K hK => ?_
  have hfit : Builtin.nextslicecap (sLen + m) sCap * i.bytes ≤ 281474976710656 := by
    have h1 := nextslicecap_le hg
    have h2 : Builtin.nextslicecap (sLen + m) sCap * i.bytes ≤ 2000000000 * 1000 := Nat.mul_le_mul (by omega) hby
    omega
  have hr := run_append_made (P := P) w t ti o.type e k i z ht hti hi hz (by rw [hsize]; exact hzs) (by rw [hsize]; exact hpos) b sLen sCap olds (by rw [hsize]; exact hlo) holds m hm0 hm hby hg hsl hfit
  unfold Oper.wp execOp
  simp only [ho, resolve, invoke, builtin, Sem.run_bind, Sem.run_pure, Result.andThen_ok, List.map_toArray, List.map_cons, List.map_nil, hs, hx, hr]
  have hge := grownCap_ge w (sLen + m) sCap e
  have e1 : (olds.toArray ++ (Builtin.zeroCells z.cells m ++ Builtin.zeroCells z.cells (grownCap w (sLen + m) sCap e - (sLen + m)))) = (olds ++ (Builtin.zeroCells z.cells m ++ Builtin.zeroCells z.cells (grownCap w (sLen + m) sCap e - (sLen + m))).toList).toArray := by
    apply Array.ext'; simp
  rw [e1]
  refine hK _ _ (h _ _ _ hge (grownCap_le_maxLen w _ _ _ (by unfold maxLen; omega)) ?_ (heap_alloc_new w.drew _) (((Below.refl _ _).drew).alloc (Nat.le_refl _) _) (by simp))
  simp only [List.length_append, Array.length_toList, Array.size_append, size_zeroCells, hzs, hlo]
  rw [← Nat.add_mul, ← Nat.add_mul]
  congr 1
  omega
end
end Go

namespace Go.Proofs.Ytnfaciageadlkaa
set_option linter.unusedSimpArgs false
set_option linter.unusedVariables false
set_option maxRecDepth 100000
open Go.RowKit


/-- What an owned list is, its whole block with it. -/
theorem OwnE.whole {w : World} {B : Nat} {v : Value} {l : List E} (h : OwnE w B v l) (h0 : 0 < l.length) : ∃ g c T, v = .slice (some ⟨g, 0, none⟩) l.length c ∧ B ≤ g ∧ l.length ≤ c ∧ c ≤ maxLen ∧ (cellsL l ++ T).length = c * 3 ∧ w.heap[g]? = some (.cells (cellsL l ++ T).toArray 32 (0, 0)) := by
  rcases h.2 with ⟨_, h2⟩ | ⟨g, cap, cur, rfl, hb, hg, hn, hc, hs, ht⟩
  · omega
  · refine ⟨g, cap, cur.toList.drop (l.length * 3), rfl, hb, hn, hc, ?_, ?_⟩
    · rw [← ht, List.take_append_drop]; simpa using hs
    · rw [← ht, List.take_append_drop]; simpa using hg
theorem OwnE.of_row {w : World} {B g c : Nat} {L : List Value} {l : List E} (hg : w.heap[g]? = some (.cells L.toArray 32 (0, 0))) (hB : B ≤ g) (hc : c ≤ maxLen) (hn : l.length ≤ c) (hL : L.length = c * 3) (ht : L.take (l.length * 3) = cellsL l) :
    OwnE w B (.slice (some ⟨g, 0, none⟩) l.length c) l :=
  ⟨cellsL_length l, .inr ⟨g, c, L.toArray, rfl, hB, hg, hn, hc, by simpa using hL, by simpa using ht⟩⟩
theorem cell_row {w : World} {g : Nat} {L : List Value} {t : TypeId} (hg : w.heap[g]? = some (.cells L.toArray t (0, 0))) (j : Nat) : w.cell? ⟨g, j, none⟩ = L[j]? := by
  simp [World.cell?, hg]
/-- Cells of a row from a place on. -/
theorem cells_from_row {w : World} {g off : Nat} {L : List Value} {t : TypeId} (cs : List Value) (hg : w.heap[g]? = some (.cells L.toArray t (0, 0))) (h : ∀ j v, cs[j]? = some v → L[off + j]? = some v) :
    ∀ j v, cs[j]? = some v → w.cell? ((⟨g, off, none⟩ : Addr).add j) = some v := by
  intro j v hj
  have hadd : (⟨g, off, none⟩ : Addr).add j = ⟨g, off + j, none⟩ := by unfold Addr.add; split <;> simp_all
  rw [hadd, cell_row hg, h j v hj]

theorem sem_pure_bind {α β : Type} (d : α) (f : α → Sem β) : (pure d : Sem α).bind f = f d := rfl
theorem splice_at {α : Type} (A B C : List α) (k : Nat) (hk : A.length = k) : splice (A ++ B) k C = A ++ (C ++ B.drop C.length) := by
  subst hk
  unfold splice
  rw [List.take_left, List.drop_append]
  simp
theorem splice_in {α : Type} (A D T X : List α) (k m : Nat) (hk : A.length = k) (hm : X.length = m) (hT : m ≤ T.length) :
    splice (splice (A ++ (D ++ T)) (k + m) D) k X = A ++ (X ++ (D ++ T.drop m)) := by
  subst hk; subst hm
  have e : A ++ (D ++ T) = (A ++ (D ++ T).take X.length) ++ (D ++ T).drop X.length := by rw [List.append_assoc, List.take_append_drop]
  rw [e, splice_at _ _ _ _ (by simp; omega), List.append_assoc, splice_at _ _ _ _ rfl]
  congr 2
  have h1 : ((D ++ T).take X.length).length = X.length := by simp; omega
  rw [List.drop_append, h1, Nat.sub_self, List.drop_zero, List.drop_eq_nil_of_le (by omega), List.nil_append]
  congr 1
  rw [List.drop_drop, List.drop_append, List.drop_eq_nil_of_le (by omega), List.nil_append]
  congr 1
  omega
theorem cellsL_split (R : List E) (i : Nat) : cellsL R = cellsL (R.take i) ++ cellsL (R.drop i) := by
  rw [← cellsL_append, List.take_append_drop]
theorem cellsL_insert (R : List E) (i : Nat) (x : E) : cellsL (insertAt R i x) = cellsL (R.take i) ++ (x.cells ++ cellsL (R.drop i)) := by
  unfold insertAt
  rw [cellsL_append, cellsL_append]
  have : cellsL [x] = x.cells := by simp [cellsL]
  rw [this]
theorem insertAt_length (R : List E) (i : Nat) (x : E) (hi : i ≤ R.length) : (insertAt R i x).length = R.length + 1 := by
  unfold insertAt; simp; omega
theorem room_row (R : List E) (i : Nat) (x : E) (T : List Value) (hi : i < R.length) (hT : 3 ≤ T.length) :
    splice (splice (cellsL R ++ T) ((i + 1) * 3) (cellsL (R.drop i))) (i * 3) x.cells = cellsL (insertAt R i x) ++ T.drop 3 := by
  have hk : (cellsL (R.take i)).length = i * 3 := by rw [cellsL_length, List.length_take, Nat.min_eq_left (by omega)]
  rw [cellsL_split R i, List.append_assoc, show (i + 1) * 3 = i * 3 + 3 by omega, splice_in _ _ _ x.cells _ 3 hk rfl hT, cellsL_insert]
  simp

theorem grow_row (A Z X D : List Value) (k : Nat) (hk : A.length = k) (hX : X.length = 3) : splice (splice (A ++ Z) k X) (k + 3) D = A ++ (X ++ (D ++ (Z.drop 3).drop D.length)) := by
  rw [splice_at _ _ _ _ hk, ← List.append_assoc, hX, splice_at (A ++ X) _ _ _ (by rw [List.length_append, hk, hX]), List.append_assoc]
theorem grown_of_below {w w' : World} (h : Below w.heap.size w w') (row : Option Nat) : w.grownBy w' row := ⟨h.os, h.tape, h.output, h.size, fun k hk _ => h.block k hk⟩

end Go.Proofs.Ytnfaciageadlkaa

namespace Go.Proofs.Ytnfaciageadlkaa
set_option linter.unusedSimpArgs false
set_option linter.unusedVariables false
set_option maxRecDepth 100000
open Go.RowKit


theorem sepSym {v v' : Value} (h : v.ownBlock = none ∨ v.ownBlock ≠ v'.ownBlock) : v'.ownBlock = none ∨ v'.ownBlock ≠ v.ownBlock := by
  rcases h with h | h
  · cases hv : v'.ownBlock with
    | none => exact .inl rfl
    | some j => exact .inr (by rw [h]; simp)
  · exact .inr (Ne.symm h)


end Go.Proofs.Ytnfaciageadlkaa

namespace Go
set_option linter.unusedSimpArgs false
set_option linter.unusedVariables false
set_option maxRecDepth 100000
open Go.RowKit
section
variable {P : Program} (w : World)
theorem step_append_x {ops : Array Oper} {o : Oper} {a : Act} {K : Act → World → Prop} {Q : Exit → Act → World → Prop} {F : Prop} (hgd : o.guard = none) (s x : Operand) (t : TypeId)
    (ho : o.op = .call { callee := .builtin .append, args := #[s, x], argTypes := #[t, t] })
    (base : Nat) (e : TypeId) (i : TypeInfo) (z : Value) (size bytes : Nat) (ht : P.underlying t = some (.slice e)) (hi : P.info? e = some i) (hz : i.zero = some z)
    (hsize : i.size = size) (hby : i.bytes = bytes) (hzs : z.cells.size = size) (hsz : 0 < size)
    (v : Value) (n : Nat) (xs : List Value) (hs : a.eval s = v) (hown : w.ownsRow base e size v n xs)
    (ad : Addr) (m c : Nat) (news : List Value) (hx : a.eval x = .slice (some ad) m c) (hl : news.length = m * size) (hnews : ∀ j u, news[j]? = some u → w.cell? (ad.add j) = some u) (h1 : ∀ u ∈ news, u.oneCell' = true)
    (hbytes : (n + m) * bytes ≤ 140737488355328) (h63 : n + m ≤ maxLen) (hbase : base ≤ w.heap.size)
    (h : ∀ v' w', w'.ownsRow base e size v' (n + m) (xs ++ news) → w.grownBy w' v.ownBlock → (v'.ownBlock = v.ownBlock ∨ v'.ownBlock = some w.heap.size) → K (a.put o.dst v') w') :
    if Region.wanted o (yielded ops a.tmps) = true then Oper.wp P o a w K Q else F := by
  have hw : Region.wanted o (yielded ops a.tmps) = true := by simp [Region.wanted, hgd]
  rw [if_pos hw]
  obtain ⟨v', w', hr, h2, h3, h4⟩ := run_append_x (P := P) w base t o.type e i z size bytes ht hi hz hsize hby hzs hsz v n xs hown ad m c news hl hnews h1 hbytes h63 hbase
  unfold Oper.wp execOp
  simp only [ho, resolve, invoke, builtin, Sem.run_bind, Sem.run_pure, Result.andThen_ok, List.map_toArray, List.map_cons, List.map_nil, hs, hx, hr]
  exact h v' w' h2 h3 h4
end
end Go
namespace Go.Proofs.Ytnfaciageadlkaa
set_option linter.unusedSimpArgs false
set_option linter.unusedVariables false
set_option maxRecDepth 100000
open Go.RowKit


end Go.Proofs.Ytnfaciageadlkaa
