/-
  The arguments of the laws of chapter 17: a geometry, a list of sectors.
  Conditions: as each theorem says.
-/
import Derived.Test.YtbiecglooagmmaaScO
import Derived.Deep.Matrix
import Derived.ProofKit
import Derived.OpenShut
import Derived.Deep.Slices
import Derived.Lib.SmallJoins
namespace Go.Proofs.Ytbiecglooagmmaa
set_option linter.unusedSimpArgs false
set_option linter.unusedVariables false
set_option maxRecDepth 100000
open Go.RowKit Go.Deep

/-- The slice 'a, length' holds these slices; what they read as, where they are short. -/
def RdZ0 (w : World) (a : Option Addr) (S : List SV) : Prop := (∀ s ∈ S, s.l.length ≤ 1000000000 → s.fit w) ∧ (S = [] ∨ ∃ b o, a = some ⟨b, o, none⟩ ∧ ∀ k s, S[k]? = some s → w.cell? ⟨b, o + k, none⟩ = some s.v)
theorem RdZ0.keep {w w' : World} {a : Option Addr} {S : List SV} (h : RdZ0 w a S) (hb : Below w.heap.size w w') : RdZ0 w' a S :=
  ⟨fun s hs hl => (h.1 s hs hl).keep hb, h.2.imp id fun ⟨b, o, e, hat⟩ => ⟨b, o, e, fun k s hk => hb.keep (hat k s hk)⟩⟩
theorem RdZ0.small {w : World} {a : Option Addr} {S : List SV} (h : RdZ0 w a S) (hl : S.length ≤ 300) (hs : ∀ s ∈ S, s.l.length ≤ 100) : RdZ w a S :=
  ⟨fun s hm => h.1 s hm (by have := hs s hm; omega), by omega, h.2⟩
section
variable {H : Type} {enc : TypeId × Value → H} {w : World}
theorem open_secs {cs : List Value} {fuel : Nat} {x : DataW H × List MemPlace} (h : DataW.trod enc Try.prog w 0 (fun _ => true) true fuel 24 cs = some x) :
    ∃ (S : List SV) (a : Option Addr) (cap : Nat), cs = [.slice a S.length cap] ∧ S.length ≤ cap ∧ cap ≤ 9223372036854775807 ∧ RdZ0 w a S := by
  rcases open_int_rows Try.underlying24 Try.underlying36 Try.underlying5 (by kernel_rfl) (by kernel_rfl) h with ⟨hcs, _⟩ | ⟨a, len, cap, A, L, C, Z, hcs, _, hl, hm, _, hr⟩
  · exact ⟨[], none, 0, hcs, by simp, by simp, fun s hs => by simp at hs, .inl rfl⟩
  · have hadd : ∀ (b o j : Nat), (⟨b, o, none⟩ : Addr).add j = ⟨b, o + j, none⟩ := fun b o j => by unfold Addr.add; split <;> simp_all
    have hby : ∀ n : Int, (Lit.int .u8 n).wf = true → byV n.toNat.toUInt8 = .int .u8 n := fun n hn => by
      have hb := bounds_u8 hn
      show Value.int .u8 _ = _
      congr 1
      show ((UInt8.ofNat n.toNat).toNat : Int) = n
      rw [UInt8.toNat_ofNat']
      omega
    have hlen : ∀ r, r < cap → (((Z r).take (L r)).map fun n : Int => n.toNat.toUInt8).length = L r := fun r hrc => by
      obtain ⟨_, h1, _, h3, _⟩ := hr r hrc
      rw [List.length_map, List.length_take]
      omega
    refine ⟨(List.range len).map fun r => ⟨A r, C r, ((Z r).take (L r)).map fun n : Int => n.toNat.toUInt8⟩, some a, cap, by simpa using hcs, by simpa using hl, by simpa [maxLen] using hm, fun s hs hls => ?_, ?_⟩
    · obtain ⟨r, hrl, rfl⟩ := List.mem_map.1 hs
      have hrc : r < cap := by have := List.mem_range.1 hrl; omega
      obtain ⟨_, h1, _, h3, h4, h5, h6⟩ := hr r hrc
      refine ⟨⟨hls, ?_⟩, by simp only; rw [hlen r hrc]; exact h1⟩
      simp only
      by_cases h0 : L r = 0
      · left
        rw [h0]
        rfl
      · right
        cases hA : A r with
        | none => exact absurd (h5 hA) (by omega)
        | some ad =>
          obtain ⟨_, h7⟩ := h6 ad hA
          obtain ⟨b, o, spot⟩ := ad
          have z0 := h7 0 (by omega)
          have hspot : spot = none := by simpa [Addr.add] using World.cell?_spot z0
          subst hspot
          refine ⟨b, o, rfl, fun k c hk => ?_⟩
          rw [List.getElem?_map, Option.map_eq_some_iff] at hk
          obtain ⟨n, hn, rfl⟩ := hk
          rw [List.getElem?_take] at hn
          split at hn
          · rename_i hkL
            have hc := h7 k (by omega)
            rw [hadd, List.getD_eq_getElem?_getD, hn] at hc
            rw [hc]
            simp only [Option.getD_some]
            rw [hby n (h4 n (List.mem_of_getElem? hn))]
          · cases hn
    · by_cases h0 : len = 0
      · left
        rw [h0]
        rfl
      · right
        obtain ⟨b, o, spot⟩ := a
        have z0 := (hr 0 (by omega)).1
        have hspot : spot = none := by simpa [Addr.add] using World.cell?_spot z0
        subst hspot
        refine ⟨b, o, rfl, fun k s hk => ?_⟩
        rw [List.getElem?_map, Option.map_eq_some_iff] at hk
        obtain ⟨r, hrr, rfl⟩ := hk
        have hrl : k < len := by have := (List.getElem?_eq_some_iff.1 hrr).1; simpa using this
        obtain rfl : k = r := by
          rw [List.getElem?_range hrl] at hrr
          exact Option.some.inj hrr
        have hc := (hr k (by omega)).1
        rw [hadd] at hc
        rw [hc]
        unfold SV.v
        simp only
        rw [hlen k (by omega)]
set_option maxRecDepth 100000 in
theorem geo_trod {cs : List Value} {fuel : Nat} {x : DataW H × List MemPlace} (h : DataW.trod enc Try.prog w 0 (fun _ => true) true fuel 23 cs = some x) :
    ∃ g : Geo, cs = [.int .i64 g.r, .int .i64 g.b, .int .i64 g.t, .int .i64 g.s, .int .i64 g.o] := by
  obtain ⟨xs, m, _, _, hlen, hl, hel⟩ := DataW.trod_struct Try.underlying23 h
  rw [show Try.prog.cellsOf 23 = 5 by kernel_rfl] at hlen
  have hce : Try.prog.cellsOf 3 = 1 := by kernel_rfl
  have hl6 : xs.length = 5 := hl
  match cs, hlen with
  | [c0, c1, c2, c3, c4], _ =>
    have e0 := hel 0 _ rfl
    have e1 := hel 1 _ rfl
    have e2 := hel 2 _ rfl
    have e3 := hel 3 _ rfl
    have e4 := hel 4 _ rfl
    have y0 : xs[0]? = some (xs[0]'(by omega)) := List.getElem?_eq_getElem (by omega)
    have y1 : xs[1]? = some (xs[1]'(by omega)) := List.getElem?_eq_getElem (by omega)
    have y2 : xs[2]? = some (xs[2]'(by omega)) := List.getElem?_eq_getElem (by omega)
    have y3 : xs[3]? = some (xs[3]'(by omega)) := List.getElem?_eq_getElem (by omega)
    have y4 : xs[4]? = some (xs[4]'(by omega)) := List.getElem?_eq_getElem (by omega)
    rw [y0] at e0
    rw [y1] at e1
    rw [y2] at e2
    rw [y3] at e3
    rw [y4] at e4
    obtain ⟨n0, k0, _, w0⟩ := DataW.trod_int Try.underlying3 e0
    obtain ⟨n1, k1, _, w1⟩ := DataW.trod_int Try.underlying3 e1
    obtain ⟨n2, k2, _, w2⟩ := DataW.trod_int Try.underlying3 e2
    obtain ⟨n3, k3, _, w3⟩ := DataW.trod_int Try.underlying3 e3
    obtain ⟨n4, k4, _, w4⟩ := DataW.trod_int Try.underlying3 e4
    replace k0 : [c0] = [.int .i64 n0] := k0
    replace k1 : [c1] = [.int .i64 n1] := k1
    replace k2 : [c2] = [.int .i64 n2] := k2
    replace k3 : [c3] = [.int .i64 n3] := k3
    replace k4 : [c4] = [.int .i64 n4] := k4
    injection k0 with k0
    injection k1 with k1
    injection k2 with k2
    injection k3 with k3
    injection k4 with k4
    subst k0 k1 k2 k3 k4
    exact ⟨⟨n0, n1, n2, n3, n4⟩, rfl⟩
set_option maxRecDepth 100000 in
theorem open_geo {r : Reach} {b0 : Nat} {v : Value} {d : DataW H} {p : List MemPlace} (hv : Value.okWide Try.prog w r b0 23 v) (h : DataW.Trod enc Try.prog w 0 (fun _ => true) true 23 v d p) :
    ∃ g : Geo, v = g.v := by
  obtain ⟨cs, rfl, hsz, _⟩ : ∃ cs, v = .agg cs ∧ cs.size = Try.prog.cellsOf 23 ∧ Row.okWide Try.prog w r b0 23 cs := by
    simpa [Value.okWide, Try.underlying23] using hv
  obtain ⟨fuel, hf⟩ := h
  obtain ⟨g, hs⟩ := geo_trod hf
  refine ⟨g, ?_⟩
  have : cs = #[.int .i64 g.r, .int .i64 g.b, .int .i64 g.t, .int .i64 g.s, .int .i64 g.o] := by
    apply Array.toList_inj.1
    exact hs
  rw [this]
end
def fairB (g : Geo) (S : List SV) : Bool := !(g.ok && decide (300 < g.r + g.b * g.size)) && (decide (S.length ≤ 300) && S.all fun s => decide (s.l.length ≤ 100))
theorem fairB_yes {g : Geo} {S : List SV} (h : fairB g S = true) : S.length ≤ 300 ∧ ∀ s ∈ S, s.l.length ≤ 100 := by
  unfold fairB at h
  simp only [Bool.and_eq_true, decide_eq_true_eq, List.all_eq_true] at h
  exact h.2
theorem fair_facts (g : Geo) (S : List SV) {q : Int} {gk fb : Bool} (hq : (if g.ok then g.r + g.b * g.size else 0) = q) (hgk : g.ok = gk) (hfb : fairB g S = fb) :
    (gk = true → 300 < q → fb = false) ∧ (300 < S.length → fb = false) ∧ (∀ s ∈ S, 100 < s.l.length → fb = false) ∧ ((gk = true → q ≤ 300) → S.length ≤ 300 → (∀ s ∈ S, s.l.length ≤ 100) → fb = true) := by
  subst hgk hfb
  unfold fairB
  refine ⟨fun h1 h2 => ?_, fun h => ?_, fun s hs h => ?_, fun h1 h2 h3 => ?_⟩
  · rw [if_pos h1] at hq
    rw [hq]
    simp [h1, h2]
  · have : decide (S.length ≤ 300) = false := by simp; omega
    simp [this]
  · have : (S.all fun s => decide (s.l.length ≤ 100)) = false := by
      rw [List.all_eq_false]
      exact ⟨s, hs, by simp; omega⟩
    simp [this]
  · have h4 : (S.all fun s => decide (s.l.length ≤ 100)) = true := by
      rw [List.all_eq_true]
      exact fun s hs => by simpa using h3 s hs
    have h5 : (g.ok && decide (300 < g.r + g.b * g.size)) = false := by
      cases hk : g.ok with
      | false => rfl
      | true =>
        rw [if_pos hk] at hq
        have := h1 hk
        simp
        omega
    rw [h4, h5]
    simpa using h2
set_option maxHeartbeats 4000000 in
/-- fair: whether the geometry is small, and the sectors few and short. -/
theorem fair_any (g : Geo) (S : List SV) (a : Option Addr) (c : Nat) (w : World) (hl : S.length ≤ 9223372036854775807) (hr : RdZ0 w a S) :
    Calls Try.prog 8 #[g.v, .slice a S.length c] w fun e w' => e = .returned (.bool (fairB g S)) ∧ Below w.heap.size w w' := by
  have HV := Lib.hid (fun W => rgvalid_any g W)
  obtain ⟨q, hq⟩ : ∃ q, (if g.ok then g.r + g.b * g.size else 0) = q := ⟨_, rfl⟩
  have HZ := Lib.hid (fun W => rsize_any g q W hq)
  have HKA := Lib.hid (fun C => (Below.refl w.heap.size w).onAlloc (.cells C 23))
  have HR := Lib.hid hr
  obtain ⟨gk, hgk⟩ : ∃ b, g.ok = b := ⟨_, rfl⟩
  obtain ⟨fb, hfb⟩ : ∃ fb, fairB g S = fb := ⟨_, rfl⟩
  obtain ⟨f1, f2, f3, f4⟩ := fair_facts g S hq hgk hfb
  have HF1 := Lib.hid f1
  have HF2 := Lib.hid f2
  have HF3 := Lib.hid f3
  have HF4 := Lib.hid f4
  rw [hfb]
  rw [hgk] at HV
  clear f1 f2 f3 f4 hfb
  obtain ⟨gr, gb, gt, gs, go⟩ := g
  unfold Geo.v at HV HZ ⊢
  simp only at HV HZ ⊢
  clear hq hgk hr
  have q0 : (w.alloc (.cells #[.int .i64 gr, .int .i64 gb, .int .i64 gt, .int .i64 gs, .int .i64 go] 23)).cell? ⟨w.heap.size, 0, none⟩ = some (.int .i64 gr) := by simp
  have q1 : (w.alloc (.cells #[.int .i64 gr, .int .i64 gb, .int .i64 gt, .int .i64 gs, .int .i64 go] 23)).cell? ⟨w.heap.size, 1, none⟩ = some (.int .i64 gb) := by simp
  have q2 : (w.alloc (.cells #[.int .i64 gr, .int .i64 gb, .int .i64 gt, .int .i64 gs, .int .i64 go] 23)).cell? ⟨w.heap.size, 2, none⟩ = some (.int .i64 gt) := by simp
  have q3 : (w.alloc (.cells #[.int .i64 gr, .int .i64 gb, .int .i64 gt, .int .i64 gs, .int .i64 go] 23)).cell? ⟨w.heap.size, 3, none⟩ = some (.int .i64 gs) := by simp
  have q4 : (w.alloc (.cells #[.int .i64 gr, .int .i64 gb, .int .i64 gt, .int .i64 gs, .int .i64 go] 23)).cell? ⟨w.heap.size, 4, none⟩ = some (.int .i64 go) := by simp
  go_enter Try.func8, Try.ntmps8
  go_wp2_with fail
  refine (HV.out _).mono ?_
  rintro e w2 ⟨rfl, hb⟩
  replace q0 := hb.keep q0
  replace q1 := hb.keep q1
  replace q2 := hb.keep q2
  replace q3 := hb.keep q3
  replace q4 := hb.keep q4
  have HB2 := Lib.hid ((HKA.out _).on hb)
  clear hb HKA HV
  cases gk with
  | false =>
    have HB3 := HB2
    have HGQ : Hid (false = true → q ≤ 300) := Lib.hid (fun h => by cases h)
    by_cases h300 : 300 < S.length
    · have hd : decide ((300 : Int) < S.length) = true := by simp; omega
      go_wp2_with fail
      go_ret
      exact ⟨by obtain rfl := HF2.out h300; rfl, HB3.out⟩
    · have hd : decide ((300 : Int) < S.length) = false := by simp; omega
      go_wp2_with fail
      go_loopw [5] (fun i wr => ∃ k : Nat, k ≤ S.length ∧ i = .int .i64 k ∧ Hid (∀ s ∈ S.take k, s.l.length ≤ 100) ∧ Below w.heap.size w wr) (fun i _ => S.length - (intOf i).toNat)
      case atStart => exact ⟨0, by omega, rfl, Lib.hid (by simp), HB3.out⟩
      case round =>
        obtain ⟨k, hk, rfl, HS, hBk⟩ := hrel
        by_cases hlt : k < S.length
        · obtain ⟨bb, o, rfl, hat⟩ := (HR.out.keep hBk).2.resolve_left (by intro e; rw [e] at hlt; simp at hlt)
          have h1 := hat k _ (List.getElem?_eq_getElem hlt)
          have HT := Lib.hid (List.take_succ_eq_append_getElem hlt)
          have HBk := Lib.hid hBk
          have HMEM := Lib.hid (List.getElem_mem hlt)
          generalize S[k] = s at *
          clear hat hBk
          have hk1 : (k : Int) < S.length := by omega
          have hk0 : (0 : Int) ≤ k := by omega
          by_cases h100 : 100 < s.l.length
          · have hd : decide ((100 : Int) < s.l.length) = true := by simp; omega
            go_wp2_with fail
            go_ret
            exact ⟨by obtain rfl := HF3.out _ HMEM.out h100; rfl, HBk.out⟩
          · have hd : decide ((100 : Int) < s.l.length) = false := by simp; omega
            go_wp2_with fail
            go_roundw
            case rel => exact ⟨k + 1, by omega, by go_num, Lib.hid (fun x hx => by
              rw [HT.out, List.mem_append, List.mem_singleton] at hx
              rcases hx with hx | rfl
              · exact HS.out x hx
              · omega), HBk.out⟩
            case measure => simp [intOf]; omega
        · obtain rfl : k = S.length := by omega
          go_wp2_with fail
          go_ret
          exact ⟨by obtain rfl := HF4.out HGQ.out (by omega) (fun x hx => HS.out x (by rw [List.take_length]; exact hx)); rfl, hBk⟩
  | true =>
    go_wp2_with fail
    refine (HZ.out _).mono ?_
    rintro e w3 ⟨rfl, hb⟩
    have HB3 := Lib.hid (HB2.out.on hb)
    clear hb q0 q1 q2 q3 q4
    by_cases hq3 : 300 < q
    · have hd : decide (300 < q) = true := by simpa using hq3
      go_wp2_with fail
      go_ret
      exact ⟨by obtain rfl := HF1.out (by first | rfl | trivial) hq3; rfl, HB3.out⟩
    · have hd : decide (300 < q) = false := by simpa using hq3
      have HGQ : Hid (true = true → q ≤ 300) := Lib.hid (fun _ => by omega)
      by_cases h300 : 300 < S.length
      · have hd : decide ((300 : Int) < S.length) = true := by simp; omega
        go_wp2_with fail
        go_ret
        exact ⟨by obtain rfl := HF2.out h300; rfl, HB3.out⟩
      · have hd : decide ((300 : Int) < S.length) = false := by simp; omega
        go_wp2_with fail
        go_loopw [5] (fun i wr => ∃ k : Nat, k ≤ S.length ∧ i = .int .i64 k ∧ Hid (∀ s ∈ S.take k, s.l.length ≤ 100) ∧ Below w.heap.size w wr) (fun i _ => S.length - (intOf i).toNat)
        case atStart => exact ⟨0, by omega, rfl, Lib.hid (by simp), HB3.out⟩
        case round =>
          obtain ⟨k, hk, rfl, HS, hBk⟩ := hrel
          by_cases hlt : k < S.length
          · obtain ⟨bb, o, rfl, hat⟩ := (HR.out.keep hBk).2.resolve_left (by intro e; rw [e] at hlt; simp at hlt)
            have h1 := hat k _ (List.getElem?_eq_getElem hlt)
            have HT := Lib.hid (List.take_succ_eq_append_getElem hlt)
            have HBk := Lib.hid hBk
            have HMEM := Lib.hid (List.getElem_mem hlt)
            generalize S[k] = s at *
            clear hat hBk
            have hk1 : (k : Int) < S.length := by omega
            have hk0 : (0 : Int) ≤ k := by omega
            by_cases h100 : 100 < s.l.length
            · have hd : decide ((100 : Int) < s.l.length) = true := by simp; omega
              go_wp2_with fail
              go_ret
              exact ⟨by obtain rfl := HF3.out _ HMEM.out h100; rfl, HBk.out⟩
            · have hd : decide ((100 : Int) < s.l.length) = false := by simp; omega
              go_wp2_with fail
              go_roundw
              case rel => exact ⟨k + 1, by omega, by go_num, Lib.hid (fun x hx => by
                rw [HT.out, List.mem_append, List.mem_singleton] at hx
                rcases hx with hx | rfl
                · exact HS.out x hx
                · omega), HBk.out⟩
              case measure => simp [intOf]; omega
          · obtain rfl : k = S.length := by omega
            go_wp2_with fail
            go_ret
            exact ⟨by obtain rfl := HF4.out HGQ.out (by omega) (fun x hx => HS.out x (by rw [List.take_length]; exact hx)); rfl, hBk⟩
end Go.Proofs.Ytbiecglooagmmaa
