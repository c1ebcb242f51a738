/-
  The specification tegularef35: New, Free, room, size, some, Runs, Largest.
  The specification tegularef35: change, Mark, Give.
  The specification tegularef35: choose, Mark, Give, Take.
  Conditions: as each theorem says.
-/
import Derived.Test.YtpjlignclchgiaaGreatHB
import Derived.Test.YtpjlignclchgiaaGreatGF
import Derived.Test.YtpjlignclchgiaaGreatHW
namespace Go.Proofs.YtpjlignclchgiaaGreat
set_option linter.unusedSimpArgs false
set_option linter.unusedVariables false
set_option maxRecDepth 100000
set_option maxHeartbeats 16000000
open Go.RowKit
open Go.RowKit
open Go.RowKit
def askB (N:Nat) (n h:Int):Bool:=decide (0≤n∧0≤h∧h≤N)
theorem askB_iff (N:Nat) (n h:Int):askB N n h=true↔0≤n∧0≤h∧h≤N:=by simp[askB]
theorem takeL_wf {M:List Bool} (hN:M.length≤65536) {n h:Nat} (hf:n≤area (freeF M) M.length):wfL (takeL M n h)∧(takeL M n h).length≤131072:=by
 have hp:=(taken_is hN (n:=n) (h:=h) hf).perm;have hl:=(taken_is hN (n:=n) (h:=h) hf).len;have key:∀ l:List E,permB M.length l=true→(l.length:Int)≤lenL l:=fun l=>by
  induction l with
  |nil=>intro _;simp[lenL]
  | cons x r ih=>
   intro h;have h1:=(permB_iff _ _).1 h x (by simp);have h2:=ih ((permB_iff _ _).2 fun y hy=>(permB_iff _ _).1 h y (by simp[hy]));rw[lenL_cons,List.length_cons];omega
 have :=key _ hp;have ha:=area_le (freeF M) M.length;refine⟨fun x hx=> ?_,by omega⟩;have hx':=(permB_iff _ _).1 hp x hx;have h0:x.a=0:=by
  unfold takeL at hx
  split at hx
  ·simp at hx
  ·split at hx
   ·simp at hx;rw[hx]
   ·split at hx
    ·simp at hx;rw[hx]
    ·unfold piecesL at hx;rcases List.mem_append.1 hx with h1|h1
     ·exact((low_is _ n (from_free M hN h).1).1.1 x h1).1
     ·rw[pieces_rest M hN]at h1;exact((low_is _ _ (before_free M hN h).1).1.1 x h1).1
 exact⟨by omega,by omega,by omega⟩
end Go.Proofs.YtpjlignclchgiaaGreat
