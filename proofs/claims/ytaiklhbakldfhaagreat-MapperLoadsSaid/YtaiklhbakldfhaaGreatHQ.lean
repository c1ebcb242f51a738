/-
  tegulalaw36: the statements' helper apply.
  The example of chapter 36: awake.
  Conditions: as each theorem says.
-/
import Derived.Test.YtaiklhbakldfhaaGreatHY
import Derived.Test.YtaiklhbakldfhaaGreatHU
import Derived.Test.YtaiklhbakldfhaaGreatHP
namespace Go.Proofs.YtaiklhbakldfhaaGreat
set_option linter.unusedSimpArgs false
set_option linter.unusedVariables false
set_option maxRecDepth 100000
set_option maxHeartbeats 16000000
open Go.RowKit Go.Maps
open Go.RowKit Go.Maps
theorem aSa (F G:Fam) (e0:Int) (fv:Value) (nm:List UInt8) (n r:Int) (w:World) (hF:F.ok) (h:bA w fv F) (hnm:nm.length<=maxLen) (he:aU F nm n r=(G,e0)):
  Calls Tryz.prog 28 #[fv,nmV nm,.int .i64 n,.int .i64 r] w (aFa w G e0):=by
 have:=bCb F fv nm n r w hF h hnm
 rwa [he]at this
theorem aYa (F G:Fam) (e0:Int) (fv:Value) (nm other:List UInt8) (w:World) (hF:F.ok) (hs:∀ v∈F.vs,v.l.length<=9000) (h:bA w fv F) (hnm:nm.length<=maxLen) (hot:other.length<=maxLen) (he:bJ F nm other=(G,e0)):
  Calls Tryz.prog 87 #[fv,nmV nm,nmV other] w (aFa w G e0):=by
 have:=bGw F fv nm other w hF hs h hnm hot
 rwa [he]at this
theorem aRx (F G:Fam) (L:List E) (e0:Int) (fv:Value) (nm:List UInt8) (w:World) (hF:F.ok) (hs:∀ v∈F.vs,v.l.length<=9000) (h:bA w fv F) (hnm:nm.length<=maxLen) (he:bC F nm=(G,L,e0)):
  Calls Tryz.prog 89 #[fv,nmV nm] w (tH w G L e0):=by
 have:=bCa F fv nm w hF hs h hnm
 rwa [he]at this
theorem bHd (F G:Fam) (L:List E) (e0:Int) (fv:Value) (nm:List UInt8) (x:E) (w:World) (hF:F.ok) (hs:∀ v∈F.vs,v.l.length<=9000) (h:bA w fv F) (hnm:nm.length<=maxLen) (hx:x.wf) (he:aQ F nm x=(G,L,e0)):
  Calls Tryz.prog 67 #[fv,nmV nm,.agg #[.int .i64 x.a,.int .i64 x.n,.int .i64 x.s]] w (tH w G L e0):=by
 have:=bCm F fv nm x w hF hs h hnm hx
 rwa [he]at this
theorem aXh (F G:Fam) (L:List E) (e0:Int) (fv:Value) (nm:List UInt8) (p n:Int) (w:World) (hF:F.ok) (hs:∀ v∈F.vs,v.l.length<=9000) (h:bA w fv F) (hnm:nm.length<=maxLen) (hp: -9223372036854775808<=p/\p<=9223372036854775807) (he:bY F nm p n=(G,L,e0)):
  Calls Tryz.prog 84 #[fv,nmV nm,.int .i64 p,.int .i64 n] w (tH w G L e0):=by
 have:=bDc F fv nm p n w hF hs h hnm hp
 rwa [he]at this
theorem sD (F:Fam) (im:List UInt8) (i1 i2 i3 i4 e0:Int) (fv:Value) (nm:List UInt8) (w:World) (hF:F.ok) (hs:∀ v∈F.vs,v.l.length<=9000) (h:bA w fv F) (hnm:nm.length<=maxLen) (he:eP F nm=(⟨im,i1,i2,i3,i4⟩,e0)):
  Calls Tryz.prog 19 #[fv,nmV nm] w fun e w'=>e= .returned (.tuple #[.agg #[nmV im,.int .i64 i1,.int .i64 i2,.int .i64 i3,.int .i64 i4],.int .i64 e0])/\Below w.heap.size w w':=by
 have:=bGg F fv nm w hF hs h hnm
 rwa [he]at this
theorem aNm (F:Fam) (fv:Value) (s k:Int) (w:World) (h:bA w fv F) (he:ofC F.C s=k):Calls Tryz.prog 46 #[fv,.int .i64 s] w fun e w'=>e= .returned (.int .i64 k)/\Below w.heap.size w w':=by
 subst he;exact bBs F fv s w h
theorem bA.form {w:World} {fv:Value} {F:Fam} (h:bA w fv F):∃ a c mb,fv= .agg #[.slice a F.N c,.map mb]:=by
 obtain⟨a,c,mb,h,_⟩:=h;exact⟨a,c,mb,h⟩
theorem bKm:3≠46:=by decide
def na:List UInt8:=[97]
end Go.Proofs.YtaiklhbakldfhaaGreat
