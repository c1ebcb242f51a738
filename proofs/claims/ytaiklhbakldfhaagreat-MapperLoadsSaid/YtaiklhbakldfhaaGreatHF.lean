/-
  The specification tegularef35: New, Free, room, size, some, Runs, Largest.
  The specification tegularef35: change, Mark, Give.
  The specification tegularef35: choose, Mark, Give, Take.
  Conditions: as each theorem says.
-/
import Derived.Test.YtaiklhbakldfhaaGreatHB
import Derived.Test.YtaiklhbakldfhaaGreatGF
import Derived.Test.YtaiklhbakldfhaaGreatHW
namespace Go.Proofs.YtaiklhbakldfhaaGreat
set_option linter.unusedSimpArgs false
set_option linter.unusedVariables false
set_option maxRecDepth 100000
set_option maxHeartbeats 16000000
open Go.RowKit
open Go.RowKit
open Go.RowKit
def bJv (N:Nat) (n h:Int):Bool:=decide (0<=n/\0<=h/\h<=N)
theorem aIg (N:Nat) (n h:Int):bJv N n h=true↔0<=n/\0<=h/\h<=N:=by simp[bJv]
theorem aFl {M:List Bool} (hN:M.length<=65536) {n h:Nat} (hf:n<=aL (dC M) M.length):wfL (fZ M n h)/\(fZ M n h).length<=131072:=by
 have hp:=(sJ hN (n:=n) (h:=h) hf).perm;have hl:=(sJ hN (n:=n) (h:=h) hf).len;have key:∀ l:List E,aS M.length l=true->(l.length:Int)<=aT l:=fun l=>by
  induction l with
  |nil=>intro _;simp[aT]
  | cons x r ih=>
   intro h;have h1:=(aO _ _).1 h x (by simp);have h2:=ih ((aO _ _).2 fun y hy=>(aO _ _).1 h y (by simp[hy]));rw[xP,List.length_cons];omega
 have :=key _ hp;have ha:=iP (dC M) M.length;refine⟨fun x hx=> ?_,by omega⟩;have hx':=(aO _ _).1 hp x hx;have h0:x.a=0:=by
  unfold fZ at hx
  split at hx
  ·simp at hx
  ·split at hx
   ·simp at hx;rw[hx]
   ·split at hx
    ·simp at hx;rw[hx]
    ·unfold xC at hx;rcases List.mem_append.1 hx with h1|h1
     ·exact((aGp _ n (xS M hN h).1).1.1 x h1).1
     ·rw[aDi M hN]at h1;exact((aGp _ _ (wR M hN h).1).1.1 x h1).1
 exact⟨by omega,by omega,by omega⟩
end Go.Proofs.YtaiklhbakldfhaaGreat
