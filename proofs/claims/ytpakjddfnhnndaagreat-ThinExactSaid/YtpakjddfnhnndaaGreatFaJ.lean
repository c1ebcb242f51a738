/-
  package family: how a family lies in memory; look-ups, stores and deletions in its map.
  Conditions: as each theorem says.
-/
import Derived.Test.YtpakjddfnhnndaaGreatFaI
import Derived.Test.YtpakjddfnhnndaaGreatFaH
import Derived.Test.YtpakjddfnhnndaaGreatGA
import Derived.Test.YtpakjddfnhnndaaGreatGF
import Derived.Maps.OwnSet
namespace Go.Proofs.YtpakjddfnhnndaaGreat
set_option linter.unusedSimpArgs false
set_option linter.unusedVariables false
set_option maxRecDepth 100000
open Go.RowKit Go.Maps

/-- How a map's element reads: as itself. -/
def heldR (v : Value) : Option (DataW Value × List MemPlace) := some (.held v, [])
theorem heldR_mk (v : Value) : heldR v = some (.held v, []) := rfl
abbrev nmV (nm : List UInt8) : Value := .string ⟨nm.toArray⟩
structure VT where
  nm : List UInt8
  n : Int
  r : Int
  a : Option Addr
  t : Tr
def VT.vol (p : VT) : Vol := ⟨p.nm, p.n, p.r, p.t.toL⟩
abbrev VT.val (p : VT) : Value := .agg #[.int .i64 p.n, .int .i64 p.r, .pointer p.a]
def VT.ent (p : VT) : Lit × DataW Value := (.string p.nm, .held p.val)
def dataT (ts : List VT) : DataW Value := .map (ts.map VT.ent)
def insT (v : VT) : List VT → List VT
  | [] => [v]
  | w :: r => if bytesBefore v.nm w.nm then v :: w :: r else w :: insT v r
def delT (ts : List VT) (nm : List UInt8) : List VT := ts.filter fun w => !(w.nm == nm)
def getT (ts : List VT) (nm : List UInt8) : Option VT := ts.find? fun w => w.nm == nm
theorem insT_vol (v : VT) (ts : List VT) : (insT v ts).map VT.vol = insV v.vol (ts.map VT.vol) := by
  induction ts with
  | nil => rfl
  | cons w r ih =>
    have h : (bytesBefore v.vol.nm w.vol.nm) = bytesBefore v.nm w.nm := rfl
    unfold insT
    rw [List.map_cons]
    unfold insV
    rw [h]
    by_cases hb : bytesBefore v.nm w.nm = true
    · rw [if_pos hb, if_pos hb]; rfl
    · rw [if_neg hb, if_neg hb, List.map_cons, ih]
theorem delT_vol (ts : List VT) (nm : List UInt8) : (delT ts nm).map VT.vol = delV (ts.map VT.vol) nm := by
  unfold delT delV
  rw [List.filter_map]
  rfl
theorem getT_vol (ts : List VT) (nm : List UInt8) : getV (ts.map VT.vol) nm = (getT ts nm).map VT.vol := by
  unfold getV getT
  rw [List.find?_map]
  rfl
theorem ent_ins (v : VT) (ts : List VT) : DataW.insert v.ent (ts.map VT.ent) = (insT v ts).map VT.ent := by
  induction ts with
  | nil => rfl
  | cons w r ih =>
    have h : v.ent.1.before w.ent.1 = bytesBefore v.nm w.nm := rfl
    rw [List.map_cons]
    unfold DataW.insert insT
    rw [h]
    by_cases hb : bytesBefore v.nm w.nm = true
    · rw [if_pos hb, if_pos hb]; rfl
    · rw [if_neg hb, if_neg hb, ih]; rfl
theorem ent_del (ts : List VT) (nm : List UInt8) : (dataT ts).del (.string nm) = dataT (delT ts nm) := by
  show DataW.map ((ts.map VT.ent).filter fun p => !p.1.sameKey (.string nm)) = .map ((delT ts nm).map VT.ent)
  unfold delT
  rw [List.filter_map]
  rfl
theorem ent_put (ts : List VT) (p : VT) : (dataT ts).put (.string p.nm) (.held p.val) = dataT (insT p (delT ts p.nm)) := by
  show DataW.map (DataW.insert (.string p.nm, .held p.val) ((ts.map VT.ent).filter fun q => !q.1.sameKey (.string p.nm))) = _
  have : ((ts.map VT.ent).filter fun q => !q.1.sameKey (.string p.nm)) = (delT ts p.nm).map VT.ent := by
    unfold delT
    rw [List.filter_map]
    rfl
  rw [this]
  exact congrArg DataW.map (ent_ins p _)
theorem ent_has (ts : List VT) (nm : List UInt8) : Maps.has (dataT ts) (.string nm) = (getT ts nm).isSome := by
  show (ts.map VT.ent).any (fun p => p.1.sameKey (.string nm)) = _
  unfold getT
  induction ts with
  | nil => rfl
  | cons w r ih =>
    rw [List.map_cons, List.any_cons, ih]
    have h : w.ent.1.sameKey (.string nm) = (w.nm == nm) := rfl
    rw [h]
    cases hw : (w.nm == nm)
    · rw [List.find?_cons_of_neg (by simp [hw])]; simp
    · rw [List.find?_cons_of_pos (by simpa using hw)]; simp
theorem ent_at (ts : List VT) (nm : List UInt8) (z : Value) : (dataT ts).atKey (.string nm) (.held z) = .held (match getT ts nm with | some p => p.val | none => z) := by
  have h0 : (dataT ts).atKey (.string nm) (.held z) = (((ts.map VT.ent).find? (fun p => p.1.sameKey (.string nm))).map Prod.snd).getD (.held z) := by
    unfold dataT DataW.atKey
    simp only
    generalize (ts.map VT.ent).find? (fun p => p.1.sameKey (.string nm)) = o
    cases o <;> rfl
  rw [h0]
  unfold getT
  rw [List.find?_map]
  have h : ((fun p : Lit × DataW Value => p.1.sameKey (.string nm)) ∘ VT.ent) = fun w : VT => w.nm == nm := rfl
  rw [h]
  cases ts.find? fun w => w.nm == nm <;> rfl
theorem getT_mem {ts : List VT} {nm : List UInt8} {p : VT} (h : getT ts nm = some p) : p ∈ ts ∧ p.nm = nm := ⟨List.mem_of_find?_eq_some h, by simpa using List.find?_some h⟩
theorem mem_insT {v x : VT} {ts : List VT} : x ∈ insT v ts ↔ x = v ∨ x ∈ ts := by
  induction ts with
  | nil => simp [insT]
  | cons w r ih =>
    unfold insT
    split
    · simp
    · simp only [List.mem_cons, ih]
      constructor
      · rintro (h | h | h)
        · exact .inr (.inl h)
        · exact .inl h
        · exact .inr (.inr h)
      · rintro (h | h | h)
        · exact .inr (.inl h)
        · exact .inl h
        · exact .inr (.inr h)
theorem mem_delT {x : VT} {ts : List VT} {nm : List UInt8} : x ∈ delT ts nm ↔ x ∈ ts ∧ x.nm ≠ nm := by simp [delT]

/-! ### In memory -/
abbrev mapIs (w : World) (b : Nat) (ts : List VT) : Prop := w.ownsMap Tryz.prog 9 heldR b ts.length (dataT ts)
theorem map_exact {w : World} {b n : Nat} {ts : List VT} (h : w.ownsMap Tryz.prog 9 heldR b n (dataT ts)) : mapIs w b ts := by
  obtain ⟨es, clock, hb, F, hs, hD⟩ := h
  refine ⟨es, clock, hb, F, ?_, hD⟩
  have h1 := congrArg Maps.size hD
  rw [Maps.size_eq] at h1
  have h2 : Maps.size (dataT ts) = ts.length := by show (ts.map VT.ent).length = _; simp
  rw [h2, length_sorted] at h1
  simp at h1
  omega
theorem map_below {w w' : World} {b : Nat} {ts : List VT} (h : mapIs w b ts) (hb : Below w.heap.size w w') : mapIs w' b ts :=
  h.kept (row := none) ⟨hb.os, hb.tape, hb.output, hb.size, fun k hk _ => hb.block k hk⟩ (by simp)
/-- The map holds these volumes. -/
def RdT (w : World) (mb : Option Nat) (ts : List VT) : Prop := (∀ p ∈ ts, IsTr w (.pointer p.a) p.t) ∧ ((mb = none ∧ ts = []) ∨ ∃ b, mb = some b ∧ mapIs w b ts)
theorem RdT.keep {w w' : World} (hb : Below w.heap.size w w') {mb : Option Nat} {ts : List VT} (h : RdT w mb ts) : RdT w' mb ts :=
  ⟨fun p hp => IsTr.keep hb p.t (h.1 p hp), h.2.elim .inl fun ⟨b, h1, h2⟩ => .inr ⟨b, h1, map_below h2 hb⟩⟩
def RdV (w : World) (mb : Option Nat) (vs : List Vol) : Prop := ∃ ts : List VT, ts.map VT.vol = vs ∧ RdT w mb ts
theorem RdV.keep {w w' : World} (hb : Below w.heap.size w w') {mb : Option Nat} {vs : List Vol} (h : RdV w mb vs) : RdV w' mb vs := by
  obtain ⟨ts, h1, h2⟩ := h
  exact ⟨ts, h1, h2.keep hb⟩
/-- The value v is the family F. -/
def FamV (w : World) (v : Value) (F : Fam) : Prop := ∃ a c mb, v = .agg #[.slice a F.N c, .map mb] ∧ RdI w a F.C ∧ RdV w mb F.vs
theorem FamV.keep {w w' : World} (hb : Below w.heap.size w w') {v : Value} {F : Fam} (h : FamV w v F) : FamV w' v F := by
  obtain ⟨a, c, mb, h1, h2, h3⟩ := h
  exact ⟨a, c, mb, h1, h2.keep hb, h3.keep hb⟩
theorem FamV.zero (w : World) : FamV w (.agg #[.slice none 0 0, .map none]) zeroF :=
  ⟨none, 0, none, rfl, by simp [RdI, zeroF, Fam.C, cntsV], [], rfl, by simp, .inl ⟨rfl, rfl⟩⟩
theorem strKeyed : Keyed Tryz.prog 9 := string_keyed Tryz.underlying9
theorem nmKey {nm : List UInt8} (h : nm.length ≤ maxLen) : keyOf Tryz.prog 9 (nmV nm) = some (.string nm) := by
  have := WideMaps.keyOf_string_mk (k := 9) Tryz.underlying9 (s := ⟨nm.toArray⟩) (by simpa [ByteArray.size] using h)
  simpa using this
theorem zeroVol (w : World) : (zeroValue 114).run Tryz.prog w = .ok (.agg #[.int .i64 0, .int .i64 0, .pointer none]) w := by kernel_rfl
/-- What a look-up yields. -/
def lookB (ts : List VT) (nm : List UInt8) : Value × Bool := match getT ts nm with
  | some p => (p.val, true)
  | none => (.agg #[.int .i64 0, .int .i64 0, .pointer none], false)
theorem look_run {w : World} {mb : Option Nat} {ts : List VT} (h : RdT w mb ts) {nm : List UInt8} (hn : nm.length ≤ maxLen) :
    (Instr.lookup 26 (.map mb) (nmV nm) true).run Tryz.prog w = .ok (.tuple #[(lookB ts nm).1, .bool (lookB ts nm).2]) w := by
  rcases h.2 with ⟨rfl, rfl⟩ | ⟨b, rfl, hm⟩
  · have := look_nil (P := Tryz.prog) (w := w) true strKeyed Tryz.underlying26 (zeroVol w) (nmKey hn)
    simpa [lookB, getT] using this
  · obtain ⟨v, ps, hrun, hv⟩ := hm.look_ok strKeyed Tryz.underlying26 (zeroVol w) (heldR_mk _) (nmKey hn)
    rw [ent_at, heldR_mk] at hv
    simp only [Option.some.injEq, Prod.mk.injEq, DataW.held.injEq] at hv
    rw [hrun, ent_has, hv.1]
    unfold lookB
    cases getT ts nm <;> rfl
theorem len_run {w : World} {mb : Option Nat} {ts : List VT} (h : RdT w mb ts) (ty : TypeId) : (Builtin.len_ #[26] ty #[.map mb]).run Tryz.prog w = .ok (.int .i64 ts.length) w := by
  rcases h.2 with ⟨rfl, rfl⟩ | ⟨b, rfl, hm⟩
  · exact len_nil Tryz.underlying26 ty
  · have := hm.len Tryz.underlying26 ty
    rw [this]
    have h2 : Maps.size (dataT ts) = ts.length := by show (ts.map VT.ent).length = _; simp
    rw [h2]
theorem lookB_some {ts : List VT} {nm : List UInt8} {p : VT} (h : getT ts nm = some p) : lookB ts nm = (p.val, true) := by simp [lookB, h]
theorem lookB_none {ts : List VT} {nm : List UInt8} (h : getT ts nm = none) : lookB ts nm = (.agg #[.int .i64 0, .int .i64 0, .pointer none], false) := by simp [lookB, h]

/-! ### A result of the type Family -/
structure RF (w W : World) (R : Nat) : Prop where
  r0 : W.cell? ⟨R, 0, none⟩ = some (.slice none 0 0)
  r1 : W.cell? ⟨R, 1, none⟩ = some (.map none)
  f0 : W.frozen? ⟨R, 0, none⟩ = false
  f1 : W.frozen? ⟨R, 1, none⟩ = false
  r2 : ∀ i, 2 ≤ i → W.cell? ⟨R, i, none⟩ = none
  le : w.heap.size ≤ R
  bel : Below w.heap.size w W
theorem RF.lt {w W : World} {R : Nat} (h : RF w W R) : R < W.heap.size := World.block_lt_of_cell? W ⟨R, 0, none⟩ h.r0
theorem RF.later {w W W' : World} {R : Nat} (h : RF w W R) (hb : Below W.heap.size W W') : RF w W' R :=
  ⟨hb.keep h.r0, hb.keep h.r1, hb.keepF h.r0 h.f0, hb.keepF h.r1 h.f1, fun i hi => (hb.cell (p := ⟨R, i, none⟩) h.lt).trans (h.r2 i hi), h.le, h.bel.on hb⟩
theorem RF.new (w W : World) (t : TypeId) (h : Below w.heap.size w W) : RF w (W.alloc (.cells #[.slice none 0 0, .map none] t)) W.heap.size := by
  refine ⟨by simp, by simp, by simp, by simp, fun i hi => ?_, h.size, h.onAlloc _⟩
  rw [World.cell?_alloc_new]
  simp
  omega
abbrev fam2 (W : World) (R : Nat) (u v : Value) : World := (W.setCell ⟨R, 0, none⟩ u).setCell ⟨R, 1, none⟩ v
theorem fam2_far {W : World} {R : Nat} {u v : Value} {x : Addr} (h : x.block ≠ R) : (fam2 W R u v).cell? x = W.cell? x := by
  rw [cell_far (by simpa using h), cell_far (by simpa using h)]
theorem fam2_heap {W : World} {R : Nat} {u v : Value} {k : Nat} (h : k ≠ R) : (fam2 W R u v).heap[k]? = W.heap[k]? := by
  rw [RowKit.Below.heap_setCell _ _ _ _ (by simpa using h), RowKit.Below.heap_setCell _ _ _ _ (by simpa using h)]
section
variable {w W : World} {R : Nat} (h : RF w W R) {u v : Value}
include h
theorem RF.cells : (fam2 W R u v).cell? ⟨R, 0, none⟩ = some u ∧ (fam2 W R u v).cell? ⟨R, 1, none⟩ = some v := by
  constructor
  · rw [World.cell?_setCell_other _ _ _ _ (by simp), World.cell?_setCell_same _ _ _ h.r0]
  · rw [World.cell?_setCell_same (u := .map none)]
    rw [World.cell?_setCell_other _ _ _ _ (by simp), h.r1]
theorem RF.below : Below w.heap.size w (fam2 W R u v) := (h.bel.setCell h.le _).setCell h.le _
theorem RF.tree (t : Tr) {p : Value} (ht : IsTr W p t) : IsTr (fam2 W R u v) p t :=
  IsTr.away (cell_none (by decide) (h.r2 7 (by omega))) t (IsTr.away (h.r2 7 (by omega)) t ht)
theorem RF.ints {a : Option Addr} {C : List Int} (hr : RdI W a C) : RdI (fam2 W R u v) a C := by
  refine ⟨hr.1, hr.2.elim .inl fun ⟨b, o, ha, ht, hc⟩ => ?_⟩
  by_cases h0 : C = []
  · exact .inl h0
  · refine .inr ⟨b, o, ha, (ht.set _ _).set _ _, fun k x hk => ?_⟩
    have hne : b ≠ R := fun e => by
      subst e
      have h1 := hc k x hk
      by_cases h2 : 2 ≤ o + k
      · rw [h.r2 _ h2] at h1; cases h1
      · by_cases h3 : o + k = 0
        · rw [h3, h.r0] at h1; cases h1
        · rw [show o + k = 1 by omega, h.r1] at h1; cases h1
    rw [fam2_far hne]
    exact hc k x hk
theorem RF.map {b : Nat} {ts : List VT} (hm : mapIs W b ts) : mapIs (fam2 W R u v) b ts := by
  obtain ⟨es, clock, hb, r⟩ := hm
  have hne : b ≠ R := fun e => by
    subst e
    have := h.r0
    simp [World.cell?, hb] at this
  exact ⟨es, clock, (fam2_heap hne).trans hb, r⟩
theorem RF.fam {fv : Value} {F : Fam} (hf : FamV W fv F) : FamV (fam2 W R u v) fv F := by
  obtain ⟨a, c, mb, h1, h2, ts, h3, h4, h5⟩ := hf
  exact ⟨a, c, mb, h1, h.ints h2, ts, h3, fun p hp => h.tree p.t (h4 p hp), h5.elim .inl fun ⟨b, q1, q2⟩ => .inr ⟨b, q1, h.map q2⟩⟩
end
theorem fam2_own {W : World} {R : Nat} {u v : Value} {B : Nat} {sv : Value} {l : List E} (ho : OwnE W B sv l) (hB : R < B) : OwnE (fam2 W R u v) B sv l := by
  have hne : sv.ownBlock ≠ some R := fun e => by have := (ho.lt R e).1; omega
  exact OwnE.far (OwnE.far ho ⟨R, 0, none⟩ u hne) ⟨R, 1, none⟩ v hne
end Go.Proofs.YtpakjddfnhnndaaGreat
