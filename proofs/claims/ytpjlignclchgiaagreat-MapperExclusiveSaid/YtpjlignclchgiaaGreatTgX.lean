/-
  A pair of bytes opened.
  Conditions: as the theorem says.
-/
import Derived.Test.YtpjlignclchgiaaGreatGB
namespace Go.Proofs.YtpjlignclchgiaaGreat
set_option linter.unusedSimpArgs false
set_option linter.unusedVariables false
set_option maxRecDepth 100000
set_option maxHeartbeats 16000000
open Go.RowKit
section
open Go.ChangeShapes Go.WideShapes Go.ChangeAt
variable {H:Type} {enc:TypeId × Value→H} {w:World}
theorem pair_size {cs:Array Value} (h:cs.size=2):∃ c0 c1,cs= #[c0,c1]:=by
 obtain⟨l⟩:=cs
 match l,h with
 | [c0,c1],_=>exact⟨c0,c1,rfl⟩
theorem open_pair {r:Reach} {b0:Nat} {v:Value} {d:DataW H} {p:List MemPlace} (hv:Value.okWide Tryz.prog w r b0 57 v) (h:DataW.Trod enc Tryz.prog w 0 (fun _=>true) true 57 v d p):
  ∃f n:Int,v= .agg #[.int .u8 f,.int .u8 n]∧(0≤f∧f≤255)∧(0≤n∧n≤255):=by
 have hce:Tryz.prog.cellsOf 5=1:=by kernel_rfl
 obtain ⟨cs,rfl,hsz,_⟩:∃ cs,v= .agg cs∧cs.size=Tryz.prog.cellsOf 57∧Row.okWide Tryz.prog w r b0 57 cs:=by
  simpa [Value.okWide,Tryz.underlying57]using hv
 rw[show Tryz.prog.cellsOf 57=2 by kernel_rfl]at hsz;obtain⟨c0,c1,rfl⟩:=pair_size hsz;obtain⟨fuel,hf⟩:=h;obtain⟨xs,m,_,_,_,hl,hel⟩:=DataW.trod_array Tryz.underlying57 hf;have e0:=hel 0 (by omega);have e1:=hel 1 (by omega);rw[hce]at e0 e1;have x0:xs[0]? =some (xs[0]'(by omega)):=List.getElem?_eq_getElem (by omega);have x1:xs[1]? =some (xs[1]'(by omega)):=List.getElem?_eq_getElem (by omega);obtain⟨n0,k0,_,w0⟩:=DataW.trod_int Tryz.underlying5 (e0.trans x0);obtain⟨n1,k1,_,w1⟩:=DataW.trod_int Tryz.underlying5 (e1.trans x1);simp[Value.cells]at k0 k1;subst k0 k1;exact⟨n0,n1,rfl,bounds_u8 w0,bounds_u8 w1⟩
end
end Go.Proofs.YtpjlignclchgiaaGreat
