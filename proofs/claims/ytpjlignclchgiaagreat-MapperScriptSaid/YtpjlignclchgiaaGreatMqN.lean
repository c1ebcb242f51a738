/-
  The walk of MapperScript.
  Conditions: as the theorem says.
-/
import Derived.Test.YtpjlignclchgiaaGreatMqM
namespace Go.Proofs.YtpjlignclchgiaaGreat
open Go.Lib (hid)
set_option linter.unusedSimpArgs false
set_option linter.unusedVariables false
set_option maxRecDepth 100000
set_option maxHeartbeats 16000000
open Go.RowKit Go.Maps
theorem law_script38 (i:Int) (S:List Step36) (a:Option Addr) (c:Nat) (w:World) (hi:0≤i∧i≤255) (hr:RdS36 w a S):
  Calls Tryz.prog 4 #[.int .u8 i,.slice a S.length c] w fun e w'=>e= .returned (.bool true)∧Below w.heap.size w w':=by
 obtain⟨n,rfl⟩:=Int.eq_ofNat_of_zero_le hi.1;have hn:n≤255:=by omega
 have hlen:=hr.1;by_cases h25:20<S.length
 ·go_enter Tryz.func4,Tryz.ntmps4;go_wp2_with fail;refine(awake38_is _).mono ?_;rintro e w1 ⟨rfl,hb1⟩;go_wp2_with fail;go_ret;exact⟨rfl,by first|exact hb1|exact HK0.o.on hb1⟩
 have hS20:S.length≤1000:=by omega
 go_enter Tryz.func4,Tryz.ntmps4;go_wp2_with fail;refine(awake38_is _).mono ?_;rintro e w1 ⟨rfl,hb1⟩;go_wp2_with fail;refine(build38_is n S a c _ hn hS20 (hr.keep hb1)).mono ?_;rintro e w2 ⟨M,F,gv,ns,na,nc,rfl,hsd,hon,hsm,hFN,hmb,hfr,hnr,hns,hfw,hch,hMw,hb2⟩;obtain⟨ra,rn,rc,rfl⟩:=hfr.form;have HB:=hid ((hb1.on hb2).onAlloc (.cells #[.int .i64 F.N,.slice ra rn rc] 30));clear hsd hon hsm hFN hmb hfr hnr hns hfw hch hMw hb1 hb2;go_wp2_with fail;go_ret;exact⟨rfl,HB.o⟩
end Go.Proofs.YtpjlignclchgiaaGreat
