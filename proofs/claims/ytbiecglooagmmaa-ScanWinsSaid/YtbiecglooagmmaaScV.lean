/-
  What both Scans return, in one form; the geometry's box.
  Conditions: as each theorem says.
-/
import Derived.Test.YtbiecglooagmmaaScT
import Derived.Test.YtbiecglooagmmaaScU
namespace Go.Proofs.Ytbiecglooagmmaa
set_option linter.unusedSimpArgs false
set_option linter.unusedVariables false
set_option maxRecDepth 100000
open Go.RowKit

def nnG (g : Geo) (S : List SV) : Nat := min (g.b.toNat * g.size.toNat) S.length
def FF (g : Geo) (bl : Int) (S : List SV) : List Cd := foundP bl (secs S) (nnG g S) (capN bl)
def LL (g : Geo) (bl : Int) (S : List SV) : List Bd := liveP g.size.toNat (bandsK bl g.size.toNat g.b.toNat (ssec S) (nnG g S)) (FF g bl S)
theorem LL_len (g : Geo) (bl : Int) (S : List SV) : (LL g bl S).length = g.b.toNat := by unfold LL; rw [liveP_len, bandsK_len]
theorem FF_len (g : Geo) (bl : Int) (S : List SV) : (FF g bl S).length ≤ 65536 := by
  have h1 := foundP_len bl (secs S) (nnG g S) (capN bl)
  have h2 : capN bl ≤ 65536 := by unfold capN; omega
  unfold FF
  omega
def ScanQ (r : Int) (F : List Cd) (L : List Bd) (W : World) (e : Ending) (w' : World) : Prop :=
  ∃ fa fc G, e = .returned (.tuple #[.slice fa F.length fc, .slice (some ⟨G, 0, none⟩) L.length L.length]) ∧ RdFd w' fa r F ∧ BdR w' G L ∧ W.heap.size ≤ G ∧ Below W.heap.size W w'
theorem ScanP.q {g : Geo} {bl : Int} {S : List SV} {W : World} {e : Ending} {w' : World} (h : ScanP g g.b.toNat g.size.toNat (nnG g S) bl S W e w') : ScanQ g.r (FF g bl S) (LL g bl S) W e w' := by
  obtain ⟨v, G, rfl, ho, hbd, h1, _, hb⟩ := h
  obtain ⟨fa, fc, rfl, hfd⟩ := ho.rd (FF_len g bl S)
  refine ⟨fa, fc, G, ?_, hfd, hbd, h1, hb⟩
  rw [LL_len]
  rfl
theorem pscan_q (g : Geo) (bl : Int) (S : List SV) (a : Option Addr) (c : Nat) (w : World) (hg : g.ok = true) (hr : RdZ w a S) (hc : S.length ≤ c) :
    Calls Try.prog 9 #[g.v, .slice a S.length c, .int .i64 bl] w (ScanQ g.r (FF g bl S) (LL g bl S) w) := by
  have hbd := Geo.bd hg
  exact (pscan_yes g g.b.toNat g.size.toNat bl S a c w hg (by omega) (by omega) hr hc).mono fun e w' h => ScanP.q h
theorem rscan_q (g : Geo) (bl : Int) (S : List SV) (a : Option Addr) (c : Nat) (w : World) (hg : g.ok = true) (hr : RdZ w a S) :
    Calls Try.prog 10 #[g.v, .slice a S.length c, .int .i64 bl] w (ScanQ g.r (FF g bl S) (LL g bl S) w) := by
  have hbd := Geo.bd hg
  exact (rscan_yes g g.b.toNat g.size.toNat bl S a c w hg (by omega) (by omega) hr).mono fun e w' h => ScanP.q h
set_option maxHeartbeats 4000000 in
theorem bsame_nil (w : World) : Calls Try.prog 12 #[.slice none 0 0, .slice none 0 0] w fun e w' => e = .returned (.bool true) ∧ Below w.heap.size w w' := by
  go_enter Try.func12, Try.ntmps12
  go_wp2_with fail
  go_loopw [5] (fun i wr => i = .int .i64 0 ∧ Below w.heap.size w wr) (fun _ _ => 0)
  case atStart => exact ⟨rfl, Below.refl _ _⟩
  case round =>
    obtain ⟨rfl, hBk⟩ := hrel
    go_wp2_with fail
    go_ret
    exact ⟨rfl, hBk⟩
/-- The geometry's box. -/
structure GX (w W : World) (gr gb gt gs go : Int) : Prop where
  q0 : W.cell? ⟨w.heap.size, 0, none⟩ = some (.int .i64 gr)
  q1 : W.cell? ⟨w.heap.size, 1, none⟩ = some (.int .i64 gb)
  q2 : W.cell? ⟨w.heap.size, 2, none⟩ = some (.int .i64 gt)
  q3 : W.cell? ⟨w.heap.size, 3, none⟩ = some (.int .i64 gs)
  q4 : W.cell? ⟨w.heap.size, 4, none⟩ = some (.int .i64 go)
  b : Below w.heap.size w W
theorem GX.later {w W W' : World} {gr gb gt gs go : Int} (h : GX w W gr gb gt gs go) (hb : Below W.heap.size W W') : GX w W' gr gb gt gs go :=
  ⟨hb.keep h.q0, hb.keep h.q1, hb.keep h.q2, hb.keep h.q3, hb.keep h.q4, h.b.on hb⟩
theorem GX.init (w : World) (gr gb gt gs go : Int) : GX w (w.alloc (.cells #[.int .i64 gr, .int .i64 gb, .int .i64 gt, .int .i64 gs, .int .i64 go] 23)) gr gb gt gs go :=
  ⟨by simp, by simp, by simp, by simp, by simp, (Below.refl w.heap.size w).onAlloc _⟩
end Go.Proofs.Ytbiecglooagmmaa
