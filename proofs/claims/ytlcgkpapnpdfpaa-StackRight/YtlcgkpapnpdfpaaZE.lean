/-
  Of StackRight: whatever threads push and pop by whatever schedule, with tags: nothing is lost, nothing is doubled. No condition.
  Part 5 of 5.
-/
import Derived.Test.YtlcgkpapnpdfpaaZD
import Derived.Conc.Own3
import Derived.Conc.Own4
import Derived.Conc.Own5
import Derived.Conc.Listed
import Derived.Conc.CompanyDraw
import Derived.Test.YtlcgkpapnpdfpaaRows
import Derived.ProofKit
import Derived.Carry
import Derived.Deep.Slices
import Derived.ChangeSlices
import Derived.ChangeSame
set_option linter.unusedSimpArgs false
set_option linter.unusedVariables false
set_option linter.unusedSectionVars false
set_option maxRecDepth 100000
set_option maxHeartbeats 8000000
namespace Go.Proofs.Ytlcgkpapnpdfpaa
open Go Go.Conc Go.RowKit Go.Proofs
noncomputable section
variable{F:Fz}{w:World}
def knbBody:Code:=Try.f41.body.getD .skip
def knbs0:=pC [] knbBody
def knbr0:=pC [zt] knbBody
def knbs1:=pC [zf] knbBody
def knbr1:=pC [zf,zt] knbBody
def knbs2:=pC [zf,zf] knbBody
def knbs3:=pC [zf,zf,zt] knbBody
def knbr2:=pC [zf,zf,zt,zt] knbBody
def knbb0:=pC [zf,zf,zt,zf] knbBody
def knbl4:=pC [zf,zf,zt,zf,zt] knbBody
def knbs5:=pC [zf,zf,zt,zf,zt,zt] knbBody
def knbr3:=pC [zf,zf,zt,zf,zt,zt,zt] knbBody
def knbs6:=pC [zf,zf,zt,zf,zt,zt,zf] knbBody
def knbc16:=pC [zf,zf,zt,zf,zt,zt,zf,zt] knbBody
def knbs7:=pC [zf,zf,zt,zf,zt,zt,zf,zf] knbBody
def knbb1:=pC [zf,zf,zt,zf,zt,zt,zf,zf,zt] knbBody
def knbs8:=pC [zf,zf,zt,zf,zt,zt,zf,zf,zt,zt] knbBody
def knbr4:=pC [zf,zf,zt,zf,zt,zt,zf,zf,zt,zt,zt] knbBody
def knbs9:=pC [zf,zf,zt,zf,zt,zt,zf,zf,zt,zt,zf] knbBody
def knbr5:=pC [zf,zf,zt,zf,zt,zt,zf,zf,zt,zt,zf,zt] knbBody
def knbs10:=pC [zf,zf,zt,zf,zt,zt,zf,zf,zt,zt,zf,zf] knbBody
def knbs11:=pC [zf,zf,zt,zf,zt,zt,zf,zf,zt,zt,zf,zf,zt] knbBody
def knbr6:=pC [zf,zf,zt,zf,zt,zt,zf,zf,zt,zt,zf,zf,zt,zt] knbBody
def knbb2:=pC [zf,zf,zt,zf,zt,zt,zf,zf,zt,zt,zf,zf,zt,zf] knbBody
def knbl12:=pC [zf,zf,zt,zf,zt,zt,zf,zf,zt,zt,zf,zf,zt,zf,zt] knbBody
def knbs13:=pC [zf,zf,zt,zf,zt,zt,zf,zf,zt,zt,zf,zf,zt,zf,zt,zt] knbBody
def knbr7:=pC [zf,zf,zt,zf,zt,zt,zf,zf,zt,zt,zf,zf,zt,zf,zt,zt,zt] knbBody
def knbs14:=pC [zf,zf,zt,zf,zt,zt,zf,zf,zt,zt,zf,zf,zt,zf,zt,zt,zf] knbBody
def knbc27:=pC [zf,zf,zt,zf,zt,zt,zf,zf,zt,zt,zf,zf,zt,zf,zt,zt,zf,zt] knbBody
def knbs15:=pC [zf,zf,zt,zf,zt,zt,zf,zf,zt,zt,zf,zf,zt,zf,zt,zt,zf,zf] knbBody
def knbb3:=pC [zf,zf,zt,zf,zt,zt,zf,zf,zt,zt,zf,zf,zt,zf,zt,zt,zf,zf,zt] knbBody
def knbs16:=pC [zf,zf,zt,zf,zt,zt,zf,zf,zt,zt,zf,zf,zt,zf,zt,zt,zf,zf,zt,zt] knbBody
def knbr10:=pC [zf,zf,zt,zf,zt,zt,zf,zf,zt,zt,zf,zf,zt,zf,zt,zt,zf,zf,zf] knbBody
def knbr11:=pC [zf,zf,zt,zf,zt,zt,zf,zf,zt,zt,zf,zf,zf] knbBody
def knbr12:=pC [zf,zf,zt,zf,zt,zt,zf,zf,zf] knbBody
def knbs17:=pC [zf,zf,zf] knbBody
def knbr13:=pC [zf,zf,zf,zt] knbBody
theorem knbs0':knbs0= .seq knbr0 knbs1:=by kernel_rfl
theorem knbs1':knbs1= .seq knbr1 knbs2:=by kernel_rfl
theorem knbs2':knbs2= .seq knbs3 knbs17:=by kernel_rfl
theorem knbs3':knbs3= .seq knbr2 knbb0:=by kernel_rfl
theorem knbb0':knbb0= .block 0 knbl4:=by kernel_rfl
theorem knbl4':knbl4= .loop knbs5:=by kernel_rfl
theorem knbs5':knbs5= .seq knbr3 knbs6:=by kernel_rfl
theorem knbs6':knbs6= .seq knbc16 knbs7:=by kernel_rfl
theorem knbc16':knbc16= .cond (.tmp 16) .skip (.exit 0):=by kernel_rfl
theorem knbs7':knbs7= .seq knbb1 knbr12:=by kernel_rfl
theorem knbb1':knbb1= .block 1 knbs8:=by kernel_rfl
theorem knbs8':knbs8= .seq knbr4 knbs9:=by kernel_rfl
theorem knbs9':knbs9= .seq knbr5 knbs10:=by kernel_rfl
theorem knbs10':knbs10= .seq knbs11 knbr11:=by kernel_rfl
theorem knbs11':knbs11= .seq knbr6 knbb2:=by kernel_rfl
theorem knbb2':knbb2= .block 2 knbl12:=by kernel_rfl
theorem knbl12':knbl12= .loop knbs13:=by kernel_rfl
theorem knbs13':knbs13= .seq knbr7 knbs14:=by kernel_rfl
theorem knbs14':knbs14= .seq knbc27 knbs15:=by kernel_rfl
theorem knbc27':knbc27= .cond (.tmp 27) .skip (.exit 2):=by kernel_rfl
theorem knbs15':knbs15= .seq knbb3 knbr10:=by kernel_rfl
theorem knbb3':knbb3= .block 3 knbs16:=by kernel_rfl
theorem knbs17':knbs17= .seq knbr13 .ret:=by kernel_rfl
theorem callable41:Callable 41:=callable Try.func41 rfl rfl
def knbT(s:Nat→Value):Array Value:= #[s 0,s 1,s 2,s 3,s 4,s 5,s 6,s 7,s 8,s 9,s 10,s 11,s 12,s 13,s 14,s 15,s 16,s 17,s 18,s 19,s 20,s 21,s 22,s 23,s 24,s 25,s 26,s 27,s 28,s 29,s 30,s 31,s 32,s 33,s 34,s 35,s 36,s 37,s 38,s 39,s 40,s 41,s 42,s 43,s 44,s 45,s 46,s 47,s 48,s 49,s 50,s 51,s 52]
theorem knbT_of{A:Array Value}(h:A.size=53):∃s,A=knbT s:=by
 obtain⟨s,hs,_⟩:=arr_lit A h
 exact⟨s,hs⟩
def krtBody:Code:=Try.f42.body.getD .skip
def krts0:=pC [] krtBody
def krtr0:=pC [zt] krtBody
def krts1:=pC [zf] krtBody
def krts2:=pC [zf,zt] krtBody
def krts4:=pC [zf,zf] krtBody
def krtr3:=pC [zf,zf,zt] krtBody
def krts5:=pC [zf,zf,zf] krtBody
def krtr4:=pC [zf,zf,zf,zt] krtBody
def krts6:=pC [zf,zf,zf,zf] krtBody
def krtr5:=pC [zf,zf,zf,zf,zt] krtBody
def krts7:=pC [zf,zf,zf,zf,zf] krtBody
def krts8:=pC [zf,zf,zf,zf,zf,zt] krtBody
def krtr6:=pC [zf,zf,zf,zf,zf,zt,zt] krtBody
def krtb0:=pC [zf,zf,zf,zf,zf,zt,zf] krtBody
def krtl9:=pC [zf,zf,zf,zf,zf,zt,zf,zt] krtBody
def krts10:=pC [zf,zf,zf,zf,zf,zt,zf,zt,zt] krtBody
def krtr7:=pC [zf,zf,zf,zf,zf,zt,zf,zt,zt,zt] krtBody
def krts11:=pC [zf,zf,zf,zf,zf,zt,zf,zt,zt,zf] krtBody
def krtc55:=pC [zf,zf,zf,zf,zf,zt,zf,zt,zt,zf,zt] krtBody
def krts12:=pC [zf,zf,zf,zf,zf,zt,zf,zt,zt,zf,zf] krtBody
def krtb1:=pC [zf,zf,zf,zf,zf,zt,zf,zt,zt,zf,zf,zt] krtBody
def krts13:=pC [zf,zf,zf,zf,zf,zt,zf,zt,zt,zf,zf,zt,zt] krtBody
def krtr8:=pC [zf,zf,zf,zf,zf,zt,zf,zt,zt,zf,zf,zt,zt,zt] krtBody
def krts14:=pC [zf,zf,zf,zf,zf,zt,zf,zt,zt,zf,zf,zt,zt,zf] krtBody
def krtr9:=pC [zf,zf,zf,zf,zf,zt,zf,zt,zt,zf,zf,zt,zt,zf,zt] krtBody
def krtb2:=pC [zf,zf,zf,zf,zf,zt,zf,zt,zt,zf,zf,zt,zt,zf,zf] krtBody
def krtl15:=pC [zf,zf,zf,zf,zf,zt,zf,zt,zt,zf,zf,zt,zt,zf,zf,zt] krtBody
def krts16:=pC [zf,zf,zf,zf,zf,zt,zf,zt,zt,zf,zf,zt,zt,zf,zf,zt,zt] krtBody
def krtr10:=pC [zf,zf,zf,zf,zf,zt,zf,zt,zt,zf,zf,zt,zt,zf,zf,zt,zt,zt] krtBody
def krts17:=pC [zf,zf,zf,zf,zf,zt,zf,zt,zt,zf,zf,zt,zt,zf,zf,zt,zt,zf] krtBody
def krtc61:=pC [zf,zf,zf,zf,zf,zt,zf,zt,zt,zf,zf,zt,zt,zf,zf,zt,zt,zf,zt] krtBody
def krts18:=pC [zf,zf,zf,zf,zf,zt,zf,zt,zt,zf,zf,zt,zt,zf,zf,zt,zt,zf,zf] krtBody
def krtb3:=pC [zf,zf,zf,zf,zf,zt,zf,zt,zt,zf,zf,zt,zt,zf,zf,zt,zt,zf,zf,zt] krtBody
def krts19:=pC [zf,zf,zf,zf,zf,zt,zf,zt,zt,zf,zf,zt,zt,zf,zf,zt,zt,zf,zf,zt,zt] krtBody
def krtr14:=pC [zf,zf,zf,zf,zf,zt,zf,zt,zt,zf,zf,zt,zt,zf,zf,zt,zt,zf,zf,zf] krtBody
def krtr15:=pC [zf,zf,zf,zf,zf,zt,zf,zt,zt,zf,zf,zf] krtBody
def krts21:=pC [zf,zf,zf,zf,zf,zf] krtBody
def krts22:=pC [zf,zf,zf,zf,zf,zf,zt] krtBody
def krtr16:=pC [zf,zf,zf,zf,zf,zf,zt,zt] krtBody
def krtb4:=pC [zf,zf,zf,zf,zf,zf,zt,zf] krtBody
def krtl23:=pC [zf,zf,zf,zf,zf,zf,zt,zf,zt] krtBody
def krts24:=pC [zf,zf,zf,zf,zf,zf,zt,zf,zt,zt] krtBody
def krtr17:=pC [zf,zf,zf,zf,zf,zf,zt,zf,zt,zt,zt] krtBody
def krts25:=pC [zf,zf,zf,zf,zf,zf,zt,zf,zt,zt,zf] krtBody
def krtc77:=pC [zf,zf,zf,zf,zf,zf,zt,zf,zt,zt,zf,zt] krtBody
def krts26:=pC [zf,zf,zf,zf,zf,zf,zt,zf,zt,zt,zf,zf] krtBody
def krtb5:=pC [zf,zf,zf,zf,zf,zf,zt,zf,zt,zt,zf,zf,zt] krtBody
def krts27:=pC [zf,zf,zf,zf,zf,zf,zt,zf,zt,zt,zf,zf,zt,zt] krtBody
def krtr18:=pC [zf,zf,zf,zf,zf,zf,zt,zf,zt,zt,zf,zf,zt,zt,zt] krtBody
def krts28:=pC [zf,zf,zf,zf,zf,zf,zt,zf,zt,zt,zf,zf,zt,zt,zf] krtBody
def krts29:=pC [zf,zf,zf,zf,zf,zf,zt,zf,zt,zt,zf,zf,zt,zt,zf,zt] krtBody
def krts31:=pC [zf,zf,zf,zf,zf,zf,zt,zf,zt,zt,zf,zf,zt,zt,zf,zf] krtBody
def krtr21:=pC [zf,zf,zf,zf,zf,zf,zt,zf,zt,zt,zf,zf,zt,zt,zf,zf,zt] krtBody
def krtb6:=pC [zf,zf,zf,zf,zf,zf,zt,zf,zt,zt,zf,zf,zt,zt,zf,zf,zf] krtBody
def krtl32:=pC [zf,zf,zf,zf,zf,zf,zt,zf,zt,zt,zf,zf,zt,zt,zf,zf,zf,zt] krtBody
def krts33:=pC [zf,zf,zf,zf,zf,zf,zt,zf,zt,zt,zf,zf,zt,zt,zf,zf,zf,zt,zt] krtBody
def krtr22:=pC [zf,zf,zf,zf,zf,zf,zt,zf,zt,zt,zf,zf,zt,zt,zf,zf,zf,zt,zt,zt] krtBody
def krts34:=pC [zf,zf,zf,zf,zf,zf,zt,zf,zt,zt,zf,zf,zt,zt,zf,zf,zf,zt,zt,zf] krtBody
def krtc100:=pC [zf,zf,zf,zf,zf,zf,zt,zf,zt,zt,zf,zf,zt,zt,zf,zf,zf,zt,zt,zf,zt] krtBody
def krts35:=pC [zf,zf,zf,zf,zf,zf,zt,zf,zt,zt,zf,zf,zt,zt,zf,zf,zf,zt,zt,zf,zf] krtBody
def krtb7:=pC [zf,zf,zf,zf,zf,zf,zt,zf,zt,zt,zf,zf,zt,zt,zf,zf,zf,zt,zt,zf,zf,zt] krtBody
def krts36:=pC [zf,zf,zf,zf,zf,zf,zt,zf,zt,zt,zf,zf,zt,zt,zf,zf,zf,zt,zt,zf,zf,zt,zt] krtBody
def krtr23:=pC [zf,zf,zf,zf,zf,zf,zt,zf,zt,zt,zf,zf,zt,zt,zf,zf,zf,zt,zt,zf,zf,zt,zt,zt] krtBody
def krts37:=pC [zf,zf,zf,zf,zf,zf,zt,zf,zt,zt,zf,zf,zt,zt,zf,zf,zf,zt,zt,zf,zf,zt,zt,zf] krtBody
def krtr24:=pC [zf,zf,zf,zf,zf,zf,zt,zf,zt,zt,zf,zf,zt,zt,zf,zf,zf,zt,zt,zf,zf,zt,zt,zf,zt] krtBody
def krts38:=pC [zf,zf,zf,zf,zf,zf,zt,zf,zt,zt,zf,zf,zt,zt,zf,zf,zf,zt,zt,zf,zf,zt,zt,zf,zf] krtBody
def krts39:=pC [zf,zf,zf,zf,zf,zf,zt,zf,zt,zt,zf,zf,zt,zt,zf,zf,zf,zt,zt,zf,zf,zt,zt,zf,zf,zt] krtBody
def krts40:=pC [zf,zf,zf,zf,zf,zf,zt,zf,zt,zt,zf,zf,zt,zt,zf,zf,zf,zt,zt,zf,zf,zt,zt,zf,zf,zf] krtBody
def krts41:=pC [zf,zf,zf,zf,zf,zf,zt,zf,zt,zt,zf,zf,zt,zt,zf,zf,zf,zt,zt,zf,zf,zt,zt,zf,zf,zf,zt] krtBody
def krts42:=pC [zf,zf,zf,zf,zf,zf,zt,zf,zt,zt,zf,zf,zt,zt,zf,zf,zf,zt,zt,zf,zf,zt,zt,zf,zf,zf,zf] krtBody
def krtr31:=pC [zf,zf,zf,zf,zf,zf,zt,zf,zt,zt,zf,zf,zt,zt,zf,zf,zf,zt,zt,zf,zf,zf] krtBody
def krtr32:=pC [zf,zf,zf,zf,zf,zf,zt,zf,zt,zt,zf,zf,zf] krtBody
def krts44:=pC [zf,zf,zf,zf,zf,zf,zf] krtBody
def krts45:=pC [zf,zf,zf,zf,zf,zf,zf,zt] krtBody
def krtr33:=pC [zf,zf,zf,zf,zf,zf,zf,zt,zt] krtBody
def krtb8:=pC [zf,zf,zf,zf,zf,zf,zf,zt,zf] krtBody
def krtl46:=pC [zf,zf,zf,zf,zf,zf,zf,zt,zf,zt] krtBody
def krts47:=pC [zf,zf,zf,zf,zf,zf,zf,zt,zf,zt,zt] krtBody
def krtr34:=pC [zf,zf,zf,zf,zf,zf,zf,zt,zf,zt,zt,zt] krtBody
def krts48:=pC [zf,zf,zf,zf,zf,zf,zf,zt,zf,zt,zt,zf] krtBody
def krtc172:=pC [zf,zf,zf,zf,zf,zf,zf,zt,zf,zt,zt,zf,zt] krtBody
def krts49:=pC [zf,zf,zf,zf,zf,zf,zf,zt,zf,zt,zt,zf,zf] krtBody
def krtb9:=pC [zf,zf,zf,zf,zf,zf,zf,zt,zf,zt,zt,zf,zf,zt] krtBody
def krts50:=pC [zf,zf,zf,zf,zf,zf,zf,zt,zf,zt,zt,zf,zf,zt,zt] krtBody
def krtr35:=pC [zf,zf,zf,zf,zf,zf,zf,zt,zf,zt,zt,zf,zf,zt,zt,zt] krtBody
def krtr36:=pC [zf,zf,zf,zf,zf,zf,zf,zt,zf,zt,zt,zf,zf,zt,zt,zf] krtBody
def krtr37:=pC [zf,zf,zf,zf,zf,zf,zf,zt,zf,zt,zt,zf,zf,zf] krtBody
def krts51:=pC [zf,zf,zf,zf,zf,zf,zf,zf] krtBody
def krtr38:=pC [zf,zf,zf,zf,zf,zf,zf,zf,zt] krtBody
def krts52:=pC [zf,zf,zf,zf,zf,zf,zf,zf,zf] krtBody
def krts53:=pC [zf,zf,zf,zf,zf,zf,zf,zf,zf,zt] krtBody
def krtr39:=pC [zf,zf,zf,zf,zf,zf,zf,zf,zf,zt,zt] krtBody
def krtb10:=pC [zf,zf,zf,zf,zf,zf,zf,zf,zf,zt,zf] krtBody
def krtl54:=pC [zf,zf,zf,zf,zf,zf,zf,zf,zf,zt,zf,zt] krtBody
def krts55:=pC [zf,zf,zf,zf,zf,zf,zf,zf,zf,zt,zf,zt,zt] krtBody
def krtr40:=pC [zf,zf,zf,zf,zf,zf,zf,zf,zf,zt,zf,zt,zt,zt] krtBody
def krts56:=pC [zf,zf,zf,zf,zf,zf,zf,zf,zf,zt,zf,zt,zt,zf] krtBody
def krtc183:=pC [zf,zf,zf,zf,zf,zf,zf,zf,zf,zt,zf,zt,zt,zf,zt] krtBody
def krtb11:=pC [zf,zf,zf,zf,zf,zf,zf,zf,zf,zt,zf,zt,zt,zf,zf] krtBody
def krts57:=pC [zf,zf,zf,zf,zf,zf,zf,zf,zf,zt,zf,zt,zt,zf,zf,zt] krtBody
def krtr41:=pC [zf,zf,zf,zf,zf,zf,zf,zf,zf,zt,zf,zt,zt,zf,zf,zt,zt] krtBody
def krts58:=pC [zf,zf,zf,zf,zf,zf,zf,zf,zf,zt,zf,zt,zt,zf,zf,zt,zf] krtBody
def krts60:=pC [zf,zf,zf,zf,zf,zf,zf,zf,zf,zf] krtBody
def krts61:=pC [zf,zf,zf,zf,zf,zf,zf,zf,zf,zf,zt] krtBody
def krtr44:=pC [zf,zf,zf,zf,zf,zf,zf,zf,zf,zf,zt,zt] krtBody
def krtb12:=pC [zf,zf,zf,zf,zf,zf,zf,zf,zf,zf,zt,zf] krtBody
def krtl62:=pC [zf,zf,zf,zf,zf,zf,zf,zf,zf,zf,zt,zf,zt] krtBody
def krts63:=pC [zf,zf,zf,zf,zf,zf,zf,zf,zf,zf,zt,zf,zt,zt] krtBody
def krtr45:=pC [zf,zf,zf,zf,zf,zf,zf,zf,zf,zf,zt,zf,zt,zt,zt] krtBody
def krts64:=pC [zf,zf,zf,zf,zf,zf,zf,zf,zf,zf,zt,zf,zt,zt,zf] krtBody
def krtc204:=pC [zf,zf,zf,zf,zf,zf,zf,zf,zf,zf,zt,zf,zt,zt,zf,zt] krtBody
def krtb13:=pC [zf,zf,zf,zf,zf,zf,zf,zf,zf,zf,zt,zf,zt,zt,zf,zf] krtBody
def krts65:=pC [zf,zf,zf,zf,zf,zf,zf,zf,zf,zf,zt,zf,zt,zt,zf,zf,zt] krtBody
def krtr46:=pC [zf,zf,zf,zf,zf,zf,zf,zf,zf,zf,zt,zf,zt,zt,zf,zf,zt,zt] krtBody
def krts66:=pC [zf,zf,zf,zf,zf,zf,zf,zf,zf,zf,zt,zf,zt,zt,zf,zf,zt,zf] krtBody
def krts68:=pC [zf,zf,zf,zf,zf,zf,zf,zf,zf,zf,zf] krtBody
def krts69:=pC [zf,zf,zf,zf,zf,zf,zf,zf,zf,zf,zf,zt] krtBody
def krtr49:=pC [zf,zf,zf,zf,zf,zf,zf,zf,zf,zf,zf,zt,zt] krtBody
def krtb14:=pC [zf,zf,zf,zf,zf,zf,zf,zf,zf,zf,zf,zt,zf] krtBody
def krtl70:=pC [zf,zf,zf,zf,zf,zf,zf,zf,zf,zf,zf,zt,zf,zt] krtBody
def krts71:=pC [zf,zf,zf,zf,zf,zf,zf,zf,zf,zf,zf,zt,zf,zt,zt] krtBody
def krtr50:=pC [zf,zf,zf,zf,zf,zf,zf,zf,zf,zf,zf,zt,zf,zt,zt,zt] krtBody
def krts72:=pC [zf,zf,zf,zf,zf,zf,zf,zf,zf,zf,zf,zt,zf,zt,zt,zf] krtBody
def krtc219:=pC [zf,zf,zf,zf,zf,zf,zf,zf,zf,zf,zf,zt,zf,zt,zt,zf,zt] krtBody
def krtb15:=pC [zf,zf,zf,zf,zf,zf,zf,zf,zf,zf,zf,zt,zf,zt,zt,zf,zf] krtBody
def krts73:=pC [zf,zf,zf,zf,zf,zf,zf,zf,zf,zf,zf,zt,zf,zt,zt,zf,zf,zt] krtBody
def krtr51:=pC [zf,zf,zf,zf,zf,zf,zf,zf,zf,zf,zf,zt,zf,zt,zt,zf,zf,zt,zt] krtBody
def krts74:=pC [zf,zf,zf,zf,zf,zf,zf,zf,zf,zf,zf,zt,zf,zt,zt,zf,zf,zt,zf] krtBody
def krts75:=pC [zf,zf,zf,zf,zf,zf,zf,zf,zf,zf,zf,zf] krtBody
def krtr54:=pC [zf,zf,zf,zf,zf,zf,zf,zf,zf,zf,zf,zf,zt] krtBody
theorem krts0':krts0= .seq krtr0 krts1:=by kernel_rfl
theorem krts1':krts1= .seq krts2 krts4:=by kernel_rfl
theorem krts4':krts4= .seq krtr3 krts5:=by kernel_rfl
theorem krts5':krts5= .seq krtr4 krts6:=by kernel_rfl
theorem krts6':krts6= .seq krtr5 krts7:=by kernel_rfl
theorem krts7':krts7= .seq krts8 krts21:=by kernel_rfl
theorem krts8':krts8= .seq krtr6 krtb0:=by kernel_rfl
theorem krtb0':krtb0= .block 0 krtl9:=by kernel_rfl
theorem krtl9':krtl9= .loop krts10:=by kernel_rfl
theorem krts10':krts10= .seq krtr7 krts11:=by kernel_rfl
theorem krts11':krts11= .seq krtc55 krts12:=by kernel_rfl
theorem krtc55':krtc55= .cond (.tmp 55) .skip (.exit 0):=by kernel_rfl
theorem krts12':krts12= .seq krtb1 krtr15:=by kernel_rfl
theorem krtb1':krtb1= .block 1 krts13:=by kernel_rfl
theorem krts13':krts13= .seq krtr8 krts14:=by kernel_rfl
theorem krts14':krts14= .seq krtr9 krtb2:=by kernel_rfl
theorem krtb2':krtb2= .block 2 krtl15:=by kernel_rfl
theorem krtl15':krtl15= .loop krts16:=by kernel_rfl
theorem krts16':krts16= .seq krtr10 krts17:=by kernel_rfl
theorem krts17':krts17= .seq krtc61 krts18:=by kernel_rfl
theorem krtc61':krtc61= .cond (.tmp 61) .skip (.exit 2):=by kernel_rfl
theorem krts18':krts18= .seq krtb3 krtr14:=by kernel_rfl
theorem krtb3':krtb3= .block 3 krts19:=by kernel_rfl
theorem krts21':krts21= .seq krts22 krts44:=by kernel_rfl
theorem krts22':krts22= .seq krtr16 krtb4:=by kernel_rfl
theorem krtb4':krtb4= .block 4 krtl23:=by kernel_rfl
theorem krtl23':krtl23= .loop krts24:=by kernel_rfl
theorem krts24':krts24= .seq krtr17 krts25:=by kernel_rfl
theorem krts25':krts25= .seq krtc77 krts26:=by kernel_rfl
theorem krtc77':krtc77= .cond (.tmp 77) .skip (.exit 4):=by kernel_rfl
theorem krts26':krts26= .seq krtb5 krtr32:=by kernel_rfl
theorem krtb5':krtb5= .block 5 krts27:=by kernel_rfl
theorem krts27':krts27= .seq krtr18 krts28:=by kernel_rfl
theorem krts28':krts28= .seq krts29 krts31:=by kernel_rfl
theorem krts31':krts31= .seq krtr21 krtb6:=by kernel_rfl
theorem krtb6':krtb6= .block 6 krtl32:=by kernel_rfl
theorem krtl32':krtl32= .loop krts33:=by kernel_rfl
theorem krts33':krts33= .seq krtr22 krts34:=by kernel_rfl
theorem krts34':krts34= .seq krtc100 krts35:=by kernel_rfl
theorem krtc100':krtc100= .cond (.tmp 100) .skip (.exit 6):=by kernel_rfl
theorem krts35':krts35= .seq krtb7 krtr31:=by kernel_rfl
theorem krtb7':krtb7= .block 7 krts36:=by kernel_rfl
theorem krts36':krts36= .seq krtr23 krts37:=by kernel_rfl
theorem krts37':krts37= .seq krtr24 krts38:=by kernel_rfl
theorem krts38':krts38= .seq krts39 krts40:=by kernel_rfl
theorem krts40':krts40= .seq krts41 krts42:=by kernel_rfl
theorem krts44':krts44= .seq krts45 krts51:=by kernel_rfl
theorem krts45':krts45= .seq krtr33 krtb8:=by kernel_rfl
theorem krtb8':krtb8= .block 8 krtl46:=by kernel_rfl
theorem krtl46':krtl46= .loop krts47:=by kernel_rfl
theorem krts47':krts47= .seq krtr34 krts48:=by kernel_rfl
theorem krts48':krts48= .seq krtc172 krts49:=by kernel_rfl
theorem krtc172':krtc172= .cond (.tmp 172) .skip (.exit 8):=by kernel_rfl
theorem krts49':krts49= .seq krtb9 krtr37:=by kernel_rfl
theorem krtb9':krtb9= .block 9 krts50:=by kernel_rfl
theorem krts50':krts50= .seq krtr35 krtr36:=by kernel_rfl
theorem krts51':krts51= .seq krtr38 krts52:=by kernel_rfl
theorem krts52':krts52= .seq krts53 krts60:=by kernel_rfl
theorem krts53':krts53= .seq krtr39 krtb10:=by kernel_rfl
theorem krtb10':krtb10= .block 10 krtl54:=by kernel_rfl
theorem krtl54':krtl54= .loop krts55:=by kernel_rfl
theorem krts55':krts55= .seq krtr40 krts56:=by kernel_rfl
theorem krts56':krts56= .seq krtc183 krtb11:=by kernel_rfl
theorem krtc183':krtc183= .cond (.tmp 183) .skip (.exit 10):=by kernel_rfl
theorem krtb11':krtb11= .block 11 krts57:=by kernel_rfl
theorem krts57':krts57= .seq krtr41 krts58:=by kernel_rfl
theorem krts60':krts60= .seq krts61 krts68:=by kernel_rfl
theorem krts61':krts61= .seq krtr44 krtb12:=by kernel_rfl
theorem krtb12':krtb12= .block 12 krtl62:=by kernel_rfl
theorem krtl62':krtl62= .loop krts63:=by kernel_rfl
theorem krts63':krts63= .seq krtr45 krts64:=by kernel_rfl
theorem krts64':krts64= .seq krtc204 krtb13:=by kernel_rfl
theorem krtc204':krtc204= .cond (.tmp 204) .skip (.exit 12):=by kernel_rfl
theorem krtb13':krtb13= .block 13 krts65:=by kernel_rfl
theorem krts65':krts65= .seq krtr46 krts66:=by kernel_rfl
theorem krts68':krts68= .seq krts69 krts75:=by kernel_rfl
theorem krts69':krts69= .seq krtr49 krtb14:=by kernel_rfl
theorem krtb14':krtb14= .block 14 krtl70:=by kernel_rfl
theorem krtl70':krtl70= .loop krts71:=by kernel_rfl
theorem krts71':krts71= .seq krtr50 krts72:=by kernel_rfl
theorem krts72':krts72= .seq krtc219 krtb15:=by kernel_rfl
theorem krtc219':krtc219= .cond (.tmp 219) .skip (.exit 14):=by kernel_rfl
theorem krtb15':krtb15= .block 15 krts73:=by kernel_rfl
theorem krts73':krts73= .seq krtr51 krts74:=by kernel_rfl
theorem krts75':krts75= .seq krtr54 .ret:=by kernel_rfl
theorem callable42:Callable 42:=callable Try.func42 rfl rfl
def krtT(s:Nat→Value):Array Value:= #[s 0,s 1,s 2,s 3,s 4,s 5,s 6,s 7,s 8,s 9,s 10,s 11,s 12,s 13,s 14,s 15,s 16,s 17,s 18,s 19,s 20,s 21,s 22,s 23,s 24,s 25,s 26,s 27,s 28,s 29,s 30,s 31,s 32,s 33,s 34,s 35,s 36,s 37,s 38,s 39,s 40,s 41,s 42,s 43,s 44,s 45,s 46,s 47,s 48,s 49,s 50,s 51,s 52,s 53,s 54,s 55,s 56,s 57,s 58,s 59,s 60,s 61,s 62,s 63,s 64,s 65,s 66,s 67,s 68,s 69,s 70,s 71,s 72,s 73,s 74,s 75,s 76,s 77,s 78,s 79,s 80,s 81,s 82,s 83,s 84,s 85,s 86,s 87,s 88,s 89,s 90,s 91,s 92,s 93,s 94,s 95,s 96,s 97,s 98,s 99,s 100,s 101,s 102,s 103,s 104,s 105,s 106,s 107,s 108,s 109,s 110,s 111,s 112,s 113,s 114,s 115,s 116,s 117,s 118,s 119,s 120,s 121,s 122,s 123,s 124,s 125,s 126,s 127,s 128,s 129,s 130,s 131,s 132,s 133,s 134,s 135,s 136,s 137,s 138,s 139,s 140,s 141,s 142,s 143,s 144,s 145,s 146,s 147,s 148,s 149,s 150,s 151,s 152,s 153,s 154,s 155,s 156,s 157,s 158,s 159,s 160,s 161,s 162,s 163,s 164,s 165,s 166,s 167,s 168,s 169,s 170,s 171,s 172,s 173,s 174,s 175,s 176,s 177,s 178,s 179,s 180,s 181,s 182,s 183,s 184,s 185,s 186,s 187,s 188,s 189,s 190,s 191,s 192,s 193,s 194,s 195,s 196,s 197,s 198,s 199,s 200,s 201,s 202,s 203,s 204,s 205,s 206,s 207,s 208,s 209,s 210,s 211,s 212,s 213,s 214,s 215,s 216,s 217,s 218,s 219,s 220,s 221,s 222,s 223,s 224,s 225,s 226,s 227,s 228,s 229,s 230,s 231,s 232,s 233,s 234,s 235,s 236,s 237,s 238,s 239,s 240,s 241,s 242,s 243,s 244,s 245,s 246,s 247,s 248]
theorem krtT_of{A:Array Value}(h:A.size=249):∃s,A=krtT s:=by
 obtain⟨s,hs,_⟩:=arr_lit A h
 exact⟨s,hs⟩
end
section
open Go.Maps
variable{w w':World}
theorem krt_6{ta:Option Addr}{n tc:Nat}{x5 x7 x8 x9 x10:Value}{A:Array Value}(hA:Slots 249 A [(1,.slice ta n tc),(5,x5),(7,x7),(8,x8),(9,x9),(10,x10)]):
 krtr6.wp Try.prog (nrm fun a u=>a.defers=[]∧Slots 249 a.tmps [(1,.slice ta n tc),(5,x5),(7,x7),(8,x8),(9,x9),(10,x10),(52,.slice ta n tc),(53,.int .i64 n),(54,.int .i64 (0:Nat))]∧u.heap=w.heap) ⟨A,[]⟩ w:=by
 obtain⟨hsz,k1,k5,k7,k8,k9,k10,_⟩:=hA
 obtain⟨s,rfl⟩:=krtT_of hsz
 change s 1=_ at k1
 change s 5=_ at k5
 change s 7=_ at k7
 change s 8=_ at k8
 change s 9=_ at k9
 change s 10=_ at k10
 clear hsz
 simp only[krtr6,krtBody,pC,Try.f42,Option.getD_some,krtT,k1,k5,k7,k8,k9,k10]
 clear k1 k5 k7 k8 k9 k10
 go_wp2
 exact⟨rfl,⟨rfl,rfl,rfl,rfl,rfl,rfl,rfl,rfl,rfl,rfl,trivial⟩,rfl⟩
theorem krt_7{i N:Nat}{x1 x5 x7 x8 x9 x10 x52:Value}{A:Array Value}(hA:Slots 249 A [(1,x1),(5,x5),(7,x7),(8,x8),(9,x9),(10,x10),(52,x52),(53,.int .i64 N),(54,.int .i64 i)]):
 krtr7.wp Try.prog (nrm fun a u=>a.defers=[]∧Slots 249 a.tmps [(1,x1),(5,x5),(7,x7),(8,x8),(9,x9),(10,x10),(52,x52),(53,.int .i64 N),(54,.int .i64 i),(55,.bool (decide (i<N)))]∧u.heap=w.heap) ⟨A,[]⟩ w:=by
 obtain⟨hsz,k1,k5,k7,k8,k9,k10,k52,k53,k54,_⟩:=hA
 obtain⟨s,rfl⟩:=krtT_of hsz
 change s 1=_ at k1
 change s 5=_ at k5
 change s 7=_ at k7
 change s 8=_ at k8
 change s 9=_ at k9
 change s 10=_ at k10
 change s 52=_ at k52
 change s 53=_ at k53
 change s 54=_ at k54
 clear hsz
 simp only[krtr7,krtBody,pC,Try.f42,Option.getD_some,krtT,k1,k5,k7,k8,k9,k10,k52,k53,k54]
 clear k1 k5 k7 k8 k9 k10 k52 k53 k54
 go_wp2
 exact⟨rfl,⟨rfl,rfl,rfl,rfl,rfl,rfl,rfl,rfl,rfl,rfl,rfl,trivial⟩,rfl⟩
theorem krt_8{i n tb to tc:Nat}{v:Value}(hi:i<n)(h0:w.cell? ⟨tb,to+i,none⟩=some v){x1 x5 x7 x8 x9 x10 x53:Value}{A:Array Value}(hA:Slots 249 A [(1,x1),(5,x5),(7,x7),(8,x8),(9,x9),(10,x10),(52,.slice (some ⟨tb,to,none⟩) n tc),(53,x53),(54,.int .i64 i)]):
 krtr8.wp Try.prog (nrm fun a u=>a.defers=[]∧Slots 249 a.tmps [(1,x1),(5,x5),(7,x7),(8,x8),(9,x9),(10,x10),(12,v),(52,.slice (some ⟨tb,to,none⟩) n tc),(53,x53),(54,.int .i64 i)]∧u.heap=w.heap) ⟨A,[]⟩ w:=by
 have hi2:(i:Int)<(n:Int):=by omega
 obtain⟨hsz,k1,k5,k7,k8,k9,k10,k52,k53,k54,_⟩:=hA
 obtain⟨s,rfl⟩:=krtT_of hsz
 change s 1=_ at k1
 change s 5=_ at k5
 change s 7=_ at k7
 change s 8=_ at k8
 change s 9=_ at k9
 change s 10=_ at k10
 change s 52=_ at k52
 change s 53=_ at k53
 change s 54=_ at k54
 clear hsz
 simp only[krtr8,krtBody,pC,Try.f42,Option.getD_some,krtT,k1,k5,k7,k8,k9,k10,k52,k53,k54]
 clear k1 k5 k7 k8 k9 k10 k52 k53 k54
 go_wp2
 exact⟨rfl,⟨rfl,rfl,rfl,rfl,rfl,rfl,rfl,rfl,rfl,rfl,rfl,trivial⟩,rfl⟩
theorem krt_9{ta:Option Addr}{n tc:Nat}{x1 x5 x7 x8 x9 x10 x52 x53 x54:Value}{A:Array Value}(hA:Slots 249 A [(1,x1),(5,x5),(7,x7),(8,x8),(9,x9),(10,x10),(12,.slice ta n tc),(52,x52),(53,x53),(54,x54)]):
 krtr9.wp Try.prog (nrm fun a u=>a.defers=[]∧Slots 249 a.tmps [(1,x1),(5,x5),(7,x7),(8,x8),(9,x9),(10,x10),(52,x52),(53,x53),(54,x54),(58,.slice ta n tc),(59,.int .i64 n),(60,.int .i64 (0:Nat))]∧u.heap=w.heap) ⟨A,[]⟩ w:=by
 obtain⟨hsz,k1,k5,k7,k8,k9,k10,k12,k52,k53,k54,_⟩:=hA
 obtain⟨s,rfl⟩:=krtT_of hsz
 change s 1=_ at k1
 change s 5=_ at k5
 change s 7=_ at k7
 change s 8=_ at k8
 change s 9=_ at k9
 change s 10=_ at k10
 change s 12=_ at k12
 change s 52=_ at k52
 change s 53=_ at k53
 change s 54=_ at k54
 clear hsz
 simp only[krtr9,krtBody,pC,Try.f42,Option.getD_some,krtT,k1,k5,k7,k8,k9,k10,k12,k52,k53,k54]
 clear k1 k5 k7 k8 k9 k10 k12 k52 k53 k54
 go_wp2
 exact⟨rfl,⟨rfl,rfl,rfl,rfl,rfl,rfl,rfl,rfl,rfl,rfl,rfl,rfl,rfl,trivial⟩,rfl⟩
theorem krt_10{i N:Nat}{x1 x5 x7 x8 x9 x10 x52 x53 x54 x58:Value}{A:Array Value}(hA:Slots 249 A [(1,x1),(5,x5),(7,x7),(8,x8),(9,x9),(10,x10),(52,x52),(53,x53),(54,x54),(58,x58),(59,.int .i64 N),(60,.int .i64 i)]):
 krtr10.wp Try.prog (nrm fun a u=>a.defers=[]∧Slots 249 a.tmps [(1,x1),(5,x5),(7,x7),(8,x8),(9,x9),(10,x10),(52,x52),(53,x53),(54,x54),(58,x58),(59,.int .i64 N),(60,.int .i64 i),(61,.bool (decide (i<N)))]∧u.heap=w.heap) ⟨A,[]⟩ w:=by
 obtain⟨hsz,k1,k5,k7,k8,k9,k10,k52,k53,k54,k58,k59,k60,_⟩:=hA
 obtain⟨s,rfl⟩:=krtT_of hsz
 change s 1=_ at k1
 change s 5=_ at k5
 change s 7=_ at k7
 change s 8=_ at k8
 change s 9=_ at k9
 change s 10=_ at k10
 change s 52=_ at k52
 change s 53=_ at k53
 change s 54=_ at k54
 change s 58=_ at k58
 change s 59=_ at k59
 change s 60=_ at k60
 clear hsz
 simp only[krtr10,krtBody,pC,Try.f42,Option.getD_some,krtT,k1,k5,k7,k8,k9,k10,k52,k53,k54,k58,k59,k60]
 clear k1 k5 k7 k8 k9 k10 k52 k53 k54 k58 k59 k60
 go_wp2
 exact⟨rfl,⟨rfl,rfl,rfl,rfl,rfl,rfl,rfl,rfl,rfl,rfl,rfl,rfl,rfl,rfl,trivial⟩,rfl⟩
theorem krt_14{i:Nat}(hi:i<1000000000){x1 x5 x7 x8 x9 x10 x52 x53 x54 x58 x59:Value}{A:Array Value}(hA:Slots 249 A [(1,x1),(5,x5),(7,x7),(8,x8),(9,x9),(10,x10),(52,x52),(53,x53),(54,x54),(58,x58),(59,x59),(60,.int .i64 i)]):
 krtr14.wp Try.prog (nrm fun a u=>a.defers=[]∧Slots 249 a.tmps [(1,x1),(5,x5),(7,x7),(8,x8),(9,x9),(10,x10),(52,x52),(53,x53),(54,x54),(58,x58),(59,x59),(60,.int .i64 (i+1:Nat))]∧u.heap=w.heap) ⟨A,[]⟩ w:=by
 have hwr:IntKind.i64.wrap ((i:Int)+1)=((i+1:Nat):Int):=IntWalk.i64_in _ (by omega)
 obtain⟨hsz,k1,k5,k7,k8,k9,k10,k52,k53,k54,k58,k59,k60,_⟩:=hA
 obtain⟨s,rfl⟩:=krtT_of hsz
 change s 1=_ at k1
 change s 5=_ at k5
 change s 7=_ at k7
 change s 8=_ at k8
 change s 9=_ at k9
 change s 10=_ at k10
 change s 52=_ at k52
 change s 53=_ at k53
 change s 54=_ at k54
 change s 58=_ at k58
 change s 59=_ at k59
 change s 60=_ at k60
 clear hsz
 simp only[krtr14,krtBody,pC,Try.f42,Option.getD_some,krtT,k1,k5,k7,k8,k9,k10,k52,k53,k54,k58,k59,k60]
 clear k1 k5 k7 k8 k9 k10 k52 k53 k54 k58 k59 k60
 go_wp2
 exact⟨rfl,⟨rfl,rfl,rfl,rfl,rfl,rfl,rfl,rfl,rfl,rfl,rfl,rfl,rfl,trivial⟩,rfl⟩
theorem krt_15{i:Nat}(hi:i<1000000000){x1 x5 x7 x8 x9 x10 x52 x53:Value}{A:Array Value}(hA:Slots 249 A [(1,x1),(5,x5),(7,x7),(8,x8),(9,x9),(10,x10),(52,x52),(53,x53),(54,.int .i64 i)]):
 krtr15.wp Try.prog (nrm fun a u=>a.defers=[]∧Slots 249 a.tmps [(1,x1),(5,x5),(7,x7),(8,x8),(9,x9),(10,x10),(52,x52),(53,x53),(54,.int .i64 (i+1:Nat))]∧u.heap=w.heap) ⟨A,[]⟩ w:=by
 have hwr:IntKind.i64.wrap ((i:Int)+1)=((i+1:Nat):Int):=IntWalk.i64_in _ (by omega)
 obtain⟨hsz,k1,k5,k7,k8,k9,k10,k52,k53,k54,_⟩:=hA
 obtain⟨s,rfl⟩:=krtT_of hsz
 change s 1=_ at k1
 change s 5=_ at k5
 change s 7=_ at k7
 change s 8=_ at k8
 change s 9=_ at k9
 change s 10=_ at k10
 change s 52=_ at k52
 change s 53=_ at k53
 change s 54=_ at k54
 clear hsz
 simp only[krtr15,krtBody,pC,Try.f42,Option.getD_some,krtT,k1,k5,k7,k8,k9,k10,k52,k53,k54]
 clear k1 k5 k7 k8 k9 k10 k52 k53 k54
 go_wp2
 exact⟨rfl,⟨rfl,rfl,rfl,rfl,rfl,rfl,rfl,rfl,rfl,rfl,trivial⟩,rfl⟩
theorem krt_b1{pb po ol oc i:Nat}{o:Op4}(hi:i<ol)(f0:w.cell? ⟨pb,po+i*4,none⟩=some (.int .i64 o.kd))(f1:w.cell? ⟨pb,po+i*4+1,none⟩=some (.int .i64 o.a))(f2:w.cell? ⟨pb,po+i*4+2,none⟩=some (.int .i64 o.b))(f3:w.cell? ⟨pb,po+i*4+3,none⟩=some (.int .i64 o.c))(hk:o.kd=1){B n:Nat}{f:Int→Nat}(hM:MapF w B n f)(hn:n<1000000)(ha: -1000000000000<o.a∧o.a<1000000000000)(hf:f o.a<1000000){x1 x5 x7 x8 x9 x52 x53 x54 x59:Value}{A:Array Value}(hA:Slots 249 A [(1,x1),(5,x5),(7,x7),(8,x8),(9,x9),(10,.map (some B)),(52,x52),(53,x53),(54,x54),(58,.slice (some ⟨pb,po,none⟩) ol oc),(59,x59),(60,.int .i64 i)]):
 krts19.wp Try.prog (nrm fun a u=>a.defers=[]∧Slots 249 a.tmps [(1,x1),(5,x5),(7,x7),(8,x8),(9,x9),(10,.map (some B)),(52,x52),(53,x53),(54,x54),(58,.slice (some ⟨pb,po,none⟩) ol oc),(59,x59),(60,.int .i64 i)]∧(∃w0,w.grownBy w0 none∧w0.grownBy u (some B))∧MapF u B (n+1) (inc f o.a)) ⟨A,[]⟩ w:=by
 have hi2:(i:Int)<(ol:Int):=by omega
 obtain⟨D,hown,hD⟩:=hM
 have hdm:=ownsMap_isMap hown
 have hwf:=wf_small ha
 have hw1:IntKind.i64.wrap ((f o.a:Int)+1)=(f o.a:Int)+1:=IntWalk.i64_in _ (by omega)
 have hwf1:(Lit.int .i64 ((f o.a:Int)+1)).wf=true:=WalkArith.wf_i64 (by omega)
 have DD:Aside (MapD D f):=hD
 have HF:Aside (f o.a<1000000):=hf
 clear hD hf
 rw[hk]at f0
 clear hk
 obtain⟨hsz,k1,k5,k7,k8,k9,k10,k52,k53,k54,k58,k59,k60,_⟩:=hA
 obtain⟨s,rfl⟩:=krtT_of hsz
 change s 1=_ at k1
 change s 5=_ at k5
 change s 7=_ at k7
 change s 8=_ at k8
 change s 9=_ at k9
 change s 10=_ at k10
 change s 52=_ at k52
 change s 53=_ at k53
 change s 54=_ at k54
 change s 58=_ at k58
 change s 59=_ at k59
 change s 60=_ at k60
 clear hsz
 simp only[krts19,krtBody,pC,Try.f42,Option.getD_some,krtT,k1,k5,k7,k8,k9,k10,k52,k53,k54,k58,k59,k60]
 clear k1 k5 k7 k8 k9 k10 k52 k53 k54 k58 k59 k60
 go_wp2_with (first
  | (at_lookup;refine wpList_lookup_own_int _ rfl _ _ 135 rfl 2 3 .i64 law2 Try.underlying135 Try.underlying3 (zero3 _) B n _ rfl (hown.alloc _) _ _ rfl (keyOf_int_mk Try.underlying2 hwf) ?_;intro c hat hwc;obtain rfl:=DD.out.is hat;clear hat hwc)
  | (at_mapUpdate;refine wpList_mapUpdate_own _ rfl _ _ _ 135 rfl 2 3 law2 Try.underlying135 _ B n _ rfl (hown.alloc _) (by unfold maxLen;omega) _ _ _ rfl rfl (keyOf_int_mk Try.underlying2 hwf) _ [] (plainElem_int Try.underlying3 hwf1) ?_;intro w1 hown1 hgrow1;skip)
  | go_in)
 exact⟨rfl,⟨rfl,rfl,rfl,rfl,rfl,rfl,rfl,rfl,rfl,rfl,rfl,rfl,rfl,trivial⟩,⟨_,World.grownBy_alloc w _ none,hgrow1⟩,_,hown1,DD.out.put hdm _⟩
theorem krt_b0{pb po ol oc i:Nat}{o:Op4}(hi:i<ol)(f0:w.cell? ⟨pb,po+i*4,none⟩=some (.int .i64 o.kd))(f1:w.cell? ⟨pb,po+i*4+1,none⟩=some (.int .i64 o.a))(f2:w.cell? ⟨pb,po+i*4+2,none⟩=some (.int .i64 o.b))(f3:w.cell? ⟨pb,po+i*4+3,none⟩=some (.int .i64 o.c))(hk:(o.kd == 1)=false){x1 x5 x7 x8 x9 x10 x52 x53 x54 x59:Value}{A:Array Value}(hA:Slots 249 A [(1,x1),(5,x5),(7,x7),(8,x8),(9,x9),(10,x10),(52,x52),(53,x53),(54,x54),(58,.slice (some ⟨pb,po,none⟩) ol oc),(59,x59),(60,.int .i64 i)]):
 krts19.wp Try.prog (nrm fun a u=>a.defers=[]∧Slots 249 a.tmps [(1,x1),(5,x5),(7,x7),(8,x8),(9,x9),(10,x10),(52,x52),(53,x53),(54,x54),(58,.slice (some ⟨pb,po,none⟩) ol oc),(59,x59),(60,.int .i64 i)]∧w.grownBy u none) ⟨A,[]⟩ w:=by
 have hi2:(i:Int)<(ol:Int):=by omega
 obtain⟨hsz,k1,k5,k7,k8,k9,k10,k52,k53,k54,k58,k59,k60,_⟩:=hA
 obtain⟨s,rfl⟩:=krtT_of hsz
 change s 1=_ at k1
 change s 5=_ at k5
 change s 7=_ at k7
 change s 8=_ at k8
 change s 9=_ at k9
 change s 10=_ at k10
 change s 52=_ at k52
 change s 53=_ at k53
 change s 54=_ at k54
 change s 58=_ at k58
 change s 59=_ at k59
 change s 60=_ at k60
 clear hsz
 simp only[krts19,krtBody,pC,Try.f42,Option.getD_some,krtT,k1,k5,k7,k8,k9,k10,k52,k53,k54,k58,k59,k60]
 clear k1 k5 k7 k8 k9 k10 k52 k53 k54 k58 k59 k60
 go_wp2
 exact⟨rfl,⟨rfl,rfl,rfl,rfl,rfl,rfl,rfl,rfl,rfl,rfl,rfl,rfl,rfl,trivial⟩,World.grownBy_alloc w _ none⟩
theorem krt_16{ta:Option Addr}{n tc:Nat}{x5 x7 x8 x9 x10:Value}{A:Array Value}(hA:Slots 249 A [(1,.slice ta n tc),(5,x5),(7,x7),(8,x8),(9,x9),(10,x10)]):
 krtr16.wp Try.prog (nrm fun a u=>a.defers=[]∧Slots 249 a.tmps [(1,.slice ta n tc),(5,x5),(7,x7),(8,x8),(9,x9),(10,x10),(74,.slice ta n tc),(75,.int .i64 n),(76,.int .i64 (0:Nat))]∧u.heap=w.heap) ⟨A,[]⟩ w:=by
 obtain⟨hsz,k1,k5,k7,k8,k9,k10,_⟩:=hA
 obtain⟨s,rfl⟩:=krtT_of hsz
 change s 1=_ at k1
 change s 5=_ at k5
 change s 7=_ at k7
 change s 8=_ at k8
 change s 9=_ at k9
 change s 10=_ at k10
 clear hsz
 simp only[krtr16,krtBody,pC,Try.f42,Option.getD_some,krtT,k1,k5,k7,k8,k9,k10]
 clear k1 k5 k7 k8 k9 k10
 go_wp2
 exact⟨rfl,⟨rfl,rfl,rfl,rfl,rfl,rfl,rfl,rfl,rfl,rfl,trivial⟩,rfl⟩
theorem krt_17{i N:Nat}{x1 x5 x7 x8 x9 x10 x74:Value}{A:Array Value}(hA:Slots 249 A [(1,x1),(5,x5),(7,x7),(8,x8),(9,x9),(10,x10),(74,x74),(75,.int .i64 N),(76,.int .i64 i)]):
 krtr17.wp Try.prog (nrm fun a u=>a.defers=[]∧Slots 249 a.tmps [(1,x1),(5,x5),(7,x7),(8,x8),(9,x9),(10,x10),(74,x74),(75,.int .i64 N),(76,.int .i64 i),(77,.bool (decide (i<N)))]∧u.heap=w.heap) ⟨A,[]⟩ w:=by
 obtain⟨hsz,k1,k5,k7,k8,k9,k10,k74,k75,k76,_⟩:=hA
 obtain⟨s,rfl⟩:=krtT_of hsz
 change s 1=_ at k1
 change s 5=_ at k5
 change s 7=_ at k7
 change s 8=_ at k8
 change s 9=_ at k9
 change s 10=_ at k10
 change s 74=_ at k74
 change s 75=_ at k75
 change s 76=_ at k76
 clear hsz
 simp only[krtr17,krtBody,pC,Try.f42,Option.getD_some,krtT,k1,k5,k7,k8,k9,k10,k74,k75,k76]
 clear k1 k5 k7 k8 k9 k10 k74 k75 k76
 go_wp2
 exact⟨rfl,⟨rfl,rfl,rfl,rfl,rfl,rfl,rfl,rfl,rfl,rfl,rfl,trivial⟩,rfl⟩
theorem krt_18{i n tb to tc:Nat}{v:Value}(hi:i<n)(h0:w.cell? ⟨tb,to+i,none⟩=some v){x1 x5 x7 x8 x9 x10 x75:Value}{A:Array Value}(hA:Slots 249 A [(1,x1),(5,x5),(7,x7),(8,x8),(9,x9),(10,x10),(74,.slice (some ⟨tb,to,none⟩) n tc),(75,x75),(76,.int .i64 i)]):
 krtr18.wp Try.prog (nrm fun a u=>a.defers=[]∧Slots 249 a.tmps [(1,x1),(5,x5),(7,x7),(8,x8),(9,x9),(10,x10),(15,.int .i64 i),(16,v),(74,.slice (some ⟨tb,to,none⟩) n tc),(75,x75),(76,.int .i64 i)]∧u.heap=w.heap) ⟨A,[]⟩ w:=by
 have hi2:(i:Int)<(n:Int):=by omega
 obtain⟨hsz,k1,k5,k7,k8,k9,k10,k74,k75,k76,_⟩:=hA
 obtain⟨s,rfl⟩:=krtT_of hsz
 change s 1=_ at k1
 change s 5=_ at k5
 change s 7=_ at k7
 change s 8=_ at k8
 change s 9=_ at k9
 change s 10=_ at k10
 change s 74=_ at k74
 change s 75=_ at k75
 change s 76=_ at k76
 clear hsz
 simp only[krtr18,krtBody,pC,Try.f42,Option.getD_some,krtT,k1,k5,k7,k8,k9,k10,k74,k75,k76]
 clear k1 k5 k7 k8 k9 k10 k74 k75 k76
 go_wp2
 exact⟨rfl,⟨rfl,rfl,rfl,rfl,rfl,rfl,rfl,rfl,rfl,rfl,rfl,rfl,trivial⟩,rfl⟩
theorem krt_19{b5 rb ro rn rc i:Nat}(h5:w.cell? ⟨b5,0,none⟩=some (.slice (some ⟨rb,ro,none⟩) rn rc))(hi:i<rn){va:Option Addr}{al vc:Nat}(hv:w.cell? ⟨rb,ro+i,none⟩=some (.slice va al vc)){oa:Option Addr}{ol oc:Nat}(hl:al≤ol){x1 x7 x8 x9 x10 x74 x75 x76:Value}{A:Array Value}(hA:Slots 249 A [(1,x1),(5,.pointer (some ⟨b5,0,none⟩)),(7,x7),(8,x8),(9,x9),(10,x10),(15,.int .i64 i),(16,.slice oa ol oc),(74,x74),(75,x75),(76,x76)]):
 krts29.wp Try.prog (nrm fun a u=>a.defers=[]∧Slots 249 a.tmps [(1,x1),(5,.pointer (some ⟨b5,0,none⟩)),(7,x7),(8,x8),(9,x9),(10,x10),(15,.int .i64 i),(16,.slice oa ol oc),(74,x74),(75,x75),(76,x76)]∧u.heap=w.heap) ⟨A,[]⟩ w:=by
 have hi2:(i:Int)<(rn:Int):=by omega
 have hl2:¬(ol:Int)<(al:Int):=by omega
 obtain⟨hsz,k1,k5,k7,k8,k9,k10,k15,k16,k74,k75,k76,_⟩:=hA
 obtain⟨s,rfl⟩:=krtT_of hsz
 change s 1=_ at k1
 change s 5=_ at k5
 change s 7=_ at k7
 change s 8=_ at k8
 change s 9=_ at k9
 change s 10=_ at k10
 change s 15=_ at k15
 change s 16=_ at k16
 change s 74=_ at k74
 change s 75=_ at k75
 change s 76=_ at k76
 clear hsz
 simp only[krts29,krtBody,pC,Try.f42,Option.getD_some,krtT,k1,k5,k7,k8,k9,k10,k15,k16,k74,k75,k76]
 clear k1 k5 k7 k8 k9 k10 k15 k16 k74 k75 k76
 go_wp2
 exact⟨rfl,⟨rfl,rfl,rfl,rfl,rfl,rfl,rfl,rfl,rfl,rfl,rfl,rfl,trivial⟩,rfl⟩
theorem krt_21{b5 rb ro rn rc i:Nat}(h5:w.cell? ⟨b5,0,none⟩=some (.slice (some ⟨rb,ro,none⟩) rn rc))(hi:i<rn){va:Option Addr}{al vc:Nat}(hv:w.cell? ⟨rb,ro+i,none⟩=some (.slice va al vc)){ol oc pb po:Nat}(hl:al≤oc){x1 x7 x8 x9 x10 x74 x75 x76:Value}{A:Array Value}(hA:Slots 249 A [(1,x1),(5,.pointer (some ⟨b5,0,none⟩)),(7,x7),(8,x8),(9,x9),(10,x10),(15,.int .i64 i),(16,.slice (some ⟨pb,po,none⟩) ol oc),(74,x74),(75,x75),(76,x76)]):
 krtr21.wp Try.prog (nrm fun a u=>a.defers=[]∧Slots 249 a.tmps [(1,x1),(5,.pointer (some ⟨b5,0,none⟩)),(7,x7),(8,x8),(9,x9),(10,x10),(15,.int .i64 i),(74,x74),(75,x75),(76,x76),(97,.slice (some ⟨pb,po,none⟩) al oc),(98,.int .i64 al),(99,.int .i64 (0:Nat))]∧u.heap=w.heap) ⟨A,[]⟩ w:=by
 have hi2:(i:Int)<(rn:Int):=by omega
 have hl2:(al:Int)≤(oc:Int):=by omega
 obtain⟨hsz,k1,k5,k7,k8,k9,k10,k15,k16,k74,k75,k76,_⟩:=hA
 obtain⟨s,rfl⟩:=krtT_of hsz
 change s 1=_ at k1
 change s 5=_ at k5
 change s 7=_ at k7
 change s 8=_ at k8
 change s 9=_ at k9
 change s 10=_ at k10
 change s 15=_ at k15
 change s 16=_ at k16
 change s 74=_ at k74
 change s 75=_ at k75
 change s 76=_ at k76
 clear hsz
 simp only[krtr21,krtBody,pC,Try.f42,Option.getD_some,krtT,k1,k5,k7,k8,k9,k10,k15,k16,k74,k75,k76]
 clear k1 k5 k7 k8 k9 k10 k15 k16 k74 k75 k76
 go_wp2
 exact⟨rfl,⟨rfl,rfl,rfl,rfl,rfl,rfl,rfl,rfl,rfl,rfl,rfl,rfl,rfl,rfl,trivial⟩,rfl⟩
theorem krt_21n{b5 rb ro rn rc i:Nat}(h5:w.cell? ⟨b5,0,none⟩=some (.slice (some ⟨rb,ro,none⟩) rn rc))(hi:i<rn){va:Option Addr}{al vc:Nat}(hv:w.cell? ⟨rb,ro+i,none⟩=some (.slice va al vc))(hl:al=0){x1 x7 x8 x9 x10 x74 x75 x76:Value}{A:Array Value}(hA:Slots 249 A [(1,x1),(5,.pointer (some ⟨b5,0,none⟩)),(7,x7),(8,x8),(9,x9),(10,x10),(15,.int .i64 i),(16,.slice none 0 0),(74,x74),(75,x75),(76,x76)]):
 krtr21.wp Try.prog (nrm fun a u=>a.defers=[]∧Slots 249 a.tmps [(1,x1),(5,.pointer (some ⟨b5,0,none⟩)),(7,x7),(8,x8),(9,x9),(10,x10),(15,.int .i64 i),(74,x74),(75,x75),(76,x76),(97,.slice none 0 0),(98,.int .i64 al),(99,.int .i64 (0:Nat))]∧u.heap=w.heap) ⟨A,[]⟩ w:=by
 have hi2:(i:Int)<(rn:Int):=by omega
 subst hl
 obtain⟨hsz,k1,k5,k7,k8,k9,k10,k15,k16,k74,k75,k76,_⟩:=hA
 obtain⟨s,rfl⟩:=krtT_of hsz
 change s 1=_ at k1
 change s 5=_ at k5
 change s 7=_ at k7
 change s 8=_ at k8
 change s 9=_ at k9
 change s 10=_ at k10
 change s 15=_ at k15
 change s 16=_ at k16
 change s 74=_ at k74
 change s 75=_ at k75
 change s 76=_ at k76
 clear hsz
 simp only[krtr21,krtBody,pC,Try.f42,Option.getD_some,krtT,k1,k5,k7,k8,k9,k10,k15,k16,k74,k75,k76]
 clear k1 k5 k7 k8 k9 k10 k15 k16 k74 k75 k76
 go_wp2
 exact⟨rfl,⟨rfl,rfl,rfl,rfl,rfl,rfl,rfl,rfl,rfl,rfl,rfl,rfl,rfl,rfl,trivial⟩,rfl⟩
theorem krt_22{i N:Nat}{x1 x5 x7 x8 x9 x10 x74 x75 x76 x15 x97:Value}{A:Array Value}(hA:Slots 249 A [(1,x1),(5,x5),(7,x7),(8,x8),(9,x9),(10,x10),(15,x15),(74,x74),(75,x75),(76,x76),(97,x97),(98,.int .i64 N),(99,.int .i64 i)]):
 krtr22.wp Try.prog (nrm fun a u=>a.defers=[]∧Slots 249 a.tmps [(1,x1),(5,x5),(7,x7),(8,x8),(9,x9),(10,x10),(15,x15),(74,x74),(75,x75),(76,x76),(97,x97),(98,.int .i64 N),(99,.int .i64 i),(100,.bool (decide (i<N)))]∧u.heap=w.heap) ⟨A,[]⟩ w:=by
 obtain⟨hsz,k1,k5,k7,k8,k9,k10,k15,k74,k75,k76,k97,k98,k99,_⟩:=hA
 obtain⟨s,rfl⟩:=krtT_of hsz
 change s 1=_ at k1
 change s 5=_ at k5
 change s 7=_ at k7
 change s 8=_ at k8
 change s 9=_ at k9
 change s 10=_ at k10
 change s 15=_ at k15
 change s 74=_ at k74
 change s 75=_ at k75
 change s 76=_ at k76
 change s 97=_ at k97
 change s 98=_ at k98
 change s 99=_ at k99
 clear hsz
 simp only[krtr22,krtBody,pC,Try.f42,Option.getD_some,krtT,k1,k5,k7,k8,k9,k10,k15,k74,k75,k76,k97,k98,k99]
 clear k1 k5 k7 k8 k9 k10 k15 k74 k75 k76 k97 k98 k99
 go_wp2
 exact⟨rfl,⟨rfl,rfl,rfl,rfl,rfl,rfl,rfl,rfl,rfl,rfl,rfl,rfl,rfl,rfl,rfl,trivial⟩,rfl⟩
theorem krt_23{pb po ol oc i:Nat}{o:Op4}(hi:i<ol)(f0:w.cell? ⟨pb,po+i*4,none⟩=some (.int .i64 o.kd))(f1:w.cell? ⟨pb,po+i*4+1,none⟩=some (.int .i64 o.a))(f2:w.cell? ⟨pb,po+i*4+2,none⟩=some (.int .i64 o.b))(f3:w.cell? ⟨pb,po+i*4+3,none⟩=some (.int .i64 o.c)){x1 x5 x7 x8 x9 x10 x74 x75 x76 x15 x98:Value}{A:Array Value}(hA:Slots 249 A [(1,x1),(5,x5),(7,x7),(8,x8),(9,x9),(10,x10),(15,x15),(74,x74),(75,x75),(76,x76),(97,.slice (some ⟨pb,po,none⟩) ol oc),(98,x98),(99,.int .i64 i)]):
 krtr23.wp Try.prog (nrm fun a u=>a.defers=[]∧Slots 249 a.tmps [(1,x1),(5,x5),(7,x7),(8,x8),(9,x9),(10,x10),(15,x15),(17,.int .i64 i),(18,.pointer (some ⟨w.heap.size,0,none⟩)),(74,x74),(75,x75),(76,x76),(97,.slice (some ⟨pb,po,none⟩) ol oc),(98,x98),(99,.int .i64 i)]∧u.heap=(w.alloc (.cells #[.int .i64 o.kd,.int .i64 o.a,.int .i64 o.b,.int .i64 o.c] 47)).heap) ⟨A,[]⟩ w:=by
 have hi2:(i:Int)<(ol:Int):=by omega
 obtain⟨hsz,k1,k5,k7,k8,k9,k10,k15,k74,k75,k76,k97,k98,k99,_⟩:=hA
 obtain⟨s,rfl⟩:=krtT_of hsz
 change s 1=_ at k1
 change s 5=_ at k5
 change s 7=_ at k7
 change s 8=_ at k8
 change s 9=_ at k9
 change s 10=_ at k10
 change s 15=_ at k15
 change s 74=_ at k74
 change s 75=_ at k75
 change s 76=_ at k76
 change s 97=_ at k97
 change s 98=_ at k98
 change s 99=_ at k99
 clear hsz
 simp only[krtr23,krtBody,pC,Try.f42,Option.getD_some,krtT,k1,k5,k7,k8,k9,k10,k15,k74,k75,k76,k97,k98,k99]
 clear k1 k5 k7 k8 k9 k10 k15 k74 k75 k76 k97 k98 k99
 go_wp2
 exact⟨rfl,⟨rfl,rfl,rfl,rfl,rfl,rfl,rfl,rfl,rfl,rfl,rfl,rfl,rfl,rfl,rfl,rfl,trivial⟩,rfl⟩
theorem krt_24{b5 rb ro rn rc i:Nat}(h5:w.cell? ⟨b5,0,none⟩=some (.slice (some ⟨rb,ro,none⟩) rn rc))(hi:i<rn){al vc ab ao:Nat}(hv:w.cell? ⟨rb,ro+i,none⟩=some (.slice (some ⟨ab,ao,none⟩) al vc)){k:Nat}{ok:Bool}{z:Int}(hk:k<al)(g0:w.cell? ⟨ab,ao+k*3,none⟩=some (.bool ok))(g1:w.cell? ⟨ab,ao+k*3+1,none⟩=some (.int .i64 z))(g2:w.cell? ⟨ab,ao+k*3+2,none⟩=some (.slice none 0 0)){x1 x7 x8 x9 x10 x74 x75 x76 x97 x98 x99 x18:Value}{A:Array Value}(hA:Slots 249 A [(1,x1),(5,.pointer (some ⟨b5,0,none⟩)),(7,x7),(8,x8),(9,x9),(10,x10),(15,.int .i64 i),(17,.int .i64 k),(18,x18),(74,x74),(75,x75),(76,x76),(97,x97),(98,x98),(99,x99)]):
 krtr24.wp Try.prog (nrm fun a u=>a.defers=[]∧Slots 249 a.tmps [(1,x1),(5,.pointer (some ⟨b5,0,none⟩)),(7,x7),(8,x8),(9,x9),(10,x10),(15,.int .i64 i),(18,x18),(19,.pointer (some ⟨w.heap.size,0,none⟩)),(74,x74),(75,x75),(76,x76),(97,x97),(98,x98),(99,x99)]∧u.heap=(w.alloc (.cells #[.bool ok,.int .i64 z,.slice none 0 0] 44)).heap) ⟨A,[]⟩ w:=by
 have hi2:(i:Int)<(rn:Int):=by omega
 have hk2:(k:Int)<(al:Int):=by omega
 obtain⟨hsz,k1,k5,k7,k8,k9,k10,k15,k17,k18,k74,k75,k76,k97,k98,k99,_⟩:=hA
 obtain⟨s,rfl⟩:=krtT_of hsz
 change s 1=_ at k1
 change s 5=_ at k5
 change s 7=_ at k7
 change s 8=_ at k8
 change s 9=_ at k9
 change s 10=_ at k10
 change s 15=_ at k15
 change s 17=_ at k17
 change s 18=_ at k18
 change s 74=_ at k74
 change s 75=_ at k75
 change s 76=_ at k76
 change s 97=_ at k97
 change s 98=_ at k98
 change s 99=_ at k99
 clear hsz
 simp only[krtr24,krtBody,pC,Try.f42,Option.getD_some,krtT,k1,k5,k7,k8,k9,k10,k15,k17,k18,k74,k75,k76,k97,k98,k99]
 clear k1 k5 k7 k8 k9 k10 k15 k17 k18 k74 k75 k76 k97 k98 k99
 go_wp2
 exact⟨rfl,⟨rfl,rfl,rfl,rfl,rfl,rfl,rfl,rfl,rfl,rfl,rfl,rfl,rfl,rfl,rfl,rfl,trivial⟩,rfl⟩
theorem krt_39y{q18 q19:Nat}{o:Op4}{ok:Bool}{z:Int}(f0:w.cell? ⟨q18,0,none⟩=some (.int .i64 o.kd))(f1:w.cell? ⟨q18,1,none⟩=some (.int .i64 o.a))(g0:w.cell? ⟨q19,0,none⟩=some (.bool ok))(g1:w.cell? ⟨q19,1,none⟩=some (.int .i64 z))(hk:o.kd=1)(hok:ok=true){B n:Nat}{f:Int→Nat}(hM:MapF w B n f)(hn:n<1000000)(ha: -1000000000000<o.a∧o.a<1000000000000)(hf:f o.a<1000000){x1 x5 x7 x9 x10 x74 x75 x76 x15 x97 x98 x99:Value}{A:Array Value}(hA:Slots 249 A [(1,x1),(5,x5),(7,x7),(8,.map (some B)),(9,x9),(10,x10),(15,x15),(18,.pointer (some ⟨q18,0,none⟩)),(19,.pointer (some ⟨q19,0,none⟩)),(74,x74),(75,x75),(76,x76),(97,x97),(98,x98),(99,x99)]):
 krts39.wp Try.prog (nrm fun a u=>a.defers=[]∧Slots 249 a.tmps [(1,x1),(5,x5),(7,x7),(8,.map (some B)),(9,x9),(10,x10),(15,x15),(18,.pointer (some ⟨q18,0,none⟩)),(19,.pointer (some ⟨q19,0,none⟩)),(74,x74),(75,x75),(76,x76),(97,x97),(98,x98),(99,x99)]∧w.grownBy u (some B)∧MapF u B (n+1) (inc f o.a)) ⟨A,[]⟩ w:=by
 subst hok
 obtain⟨D,hown,hD⟩:=hM
 have hdm:=ownsMap_isMap hown
 have hwf:=wf_small ha
 have hw1:IntKind.i64.wrap ((f o.a:Int)+1)=(f o.a:Int)+1:=IntWalk.i64_in _ (by omega)
 have hwf1:(Lit.int .i64 ((f o.a:Int)+1)).wf=true:=WalkArith.wf_i64 (by omega)
 have DD:Aside (MapD D f):=hD
 have HF:Aside (f o.a<1000000):=hf
 clear hD hf
 rw[hk]at f0
 clear hk
 obtain⟨hsz,k1,k5,k7,k8,k9,k10,k15,k18,k19,k74,k75,k76,k97,k98,k99,_⟩:=hA
 obtain⟨s,rfl⟩:=krtT_of hsz
 change s 1=_ at k1
 change s 5=_ at k5
 change s 7=_ at k7
 change s 8=_ at k8
 change s 9=_ at k9
 change s 10=_ at k10
 change s 15=_ at k15
 change s 18=_ at k18
 change s 19=_ at k19
 change s 74=_ at k74
 change s 75=_ at k75
 change s 76=_ at k76
 change s 97=_ at k97
 change s 98=_ at k98
 change s 99=_ at k99
 clear hsz
 simp only[krts39,krtBody,pC,Try.f42,Option.getD_some,krtT,k1,k5,k7,k8,k9,k10,k15,k18,k19,k74,k75,k76,k97,k98,k99]
 clear k1 k5 k7 k8 k9 k10 k15 k18 k19 k74 k75 k76 k97 k98 k99
 go_wp2_with (first
  | (at_lookup;refine wpList_lookup_own_int _ rfl _ _ 135 rfl 2 3 .i64 law2 Try.underlying135 Try.underlying3 (zero3 _) B n _ rfl hown _ _ rfl (keyOf_int_mk Try.underlying2 hwf) ?_;intro c hat hwc;obtain rfl:=DD.out.is hat;clear hat hwc)
  | (at_mapUpdate;refine wpList_mapUpdate_own _ rfl _ _ _ 135 rfl 2 3 law2 Try.underlying135 _ B n _ rfl hown (by unfold maxLen;omega) _ _ _ rfl rfl (keyOf_int_mk Try.underlying2 hwf) _ [] (plainElem_int Try.underlying3 hwf1) ?_;intro w1 hown1 hgrow1;skip)
  | go_in)
 exact⟨rfl,⟨rfl,rfl,rfl,rfl,rfl,rfl,rfl,rfl,rfl,rfl,rfl,rfl,rfl,rfl,rfl,rfl,trivial⟩,hgrow1,_,hown1,DD.out.put hdm _⟩
theorem krt_39a{q18 q19:Nat}{o:Op4}{ok:Bool}{z:Int}(f0:w.cell? ⟨q18,0,none⟩=some (.int .i64 o.kd))(f1:w.cell? ⟨q18,1,none⟩=some (.int .i64 o.a))(g0:w.cell? ⟨q19,0,none⟩=some (.bool ok))(g1:w.cell? ⟨q19,1,none⟩=some (.int .i64 z))(hk:(o.kd == 1)=false){x1 x5 x7 x8 x9 x10 x74 x75 x76 x15 x97 x98 x99:Value}{A:Array Value}(hA:Slots 249 A [(1,x1),(5,x5),(7,x7),(8,x8),(9,x9),(10,x10),(15,x15),(18,.pointer (some ⟨q18,0,none⟩)),(19,.pointer (some ⟨q19,0,none⟩)),(74,x74),(75,x75),(76,x76),(97,x97),(98,x98),(99,x99)]):
 krts39.wp Try.prog (nrm fun a u=>a.defers=[]∧Slots 249 a.tmps [(1,x1),(5,x5),(7,x7),(8,x8),(9,x9),(10,x10),(15,x15),(18,.pointer (some ⟨q18,0,none⟩)),(19,.pointer (some ⟨q19,0,none⟩)),(74,x74),(75,x75),(76,x76),(97,x97),(98,x98),(99,x99)]∧u.heap=w.heap) ⟨A,[]⟩ w:=by
 obtain⟨hsz,k1,k5,k7,k8,k9,k10,k15,k18,k19,k74,k75,k76,k97,k98,k99,_⟩:=hA
 obtain⟨s,rfl⟩:=krtT_of hsz
 change s 1=_ at k1
 change s 5=_ at k5
 change s 7=_ at k7
 change s 8=_ at k8
 change s 9=_ at k9
 change s 10=_ at k10
 change s 15=_ at k15
 change s 18=_ at k18
 change s 19=_ at k19
 change s 74=_ at k74
 change s 75=_ at k75
 change s 76=_ at k76
 change s 97=_ at k97
 change s 98=_ at k98
 change s 99=_ at k99
 clear hsz
 simp only[krts39,krtBody,pC,Try.f42,Option.getD_some,krtT,k1,k5,k7,k8,k9,k10,k15,k18,k19,k74,k75,k76,k97,k98,k99]
 clear k1 k5 k7 k8 k9 k10 k15 k18 k19 k74 k75 k76 k97 k98 k99
 go_wp2
 exact⟨rfl,⟨rfl,rfl,rfl,rfl,rfl,rfl,rfl,rfl,rfl,rfl,rfl,rfl,rfl,rfl,rfl,rfl,trivial⟩,rfl⟩
theorem krt_39b{q18 q19:Nat}{o:Op4}{ok:Bool}{z:Int}(f0:w.cell? ⟨q18,0,none⟩=some (.int .i64 o.kd))(f1:w.cell? ⟨q18,1,none⟩=some (.int .i64 o.a))(g0:w.cell? ⟨q19,0,none⟩=some (.bool ok))(g1:w.cell? ⟨q19,1,none⟩=some (.int .i64 z))(hk:o.kd=1)(hok:ok=false){x1 x5 x7 x8 x9 x10 x74 x75 x76 x15 x97 x98 x99:Value}{A:Array Value}(hA:Slots 249 A [(1,x1),(5,x5),(7,x7),(8,x8),(9,x9),(10,x10),(15,x15),(18,.pointer (some ⟨q18,0,none⟩)),(19,.pointer (some ⟨q19,0,none⟩)),(74,x74),(75,x75),(76,x76),(97,x97),(98,x98),(99,x99)]):
 krts39.wp Try.prog (nrm fun a u=>a.defers=[]∧Slots 249 a.tmps [(1,x1),(5,x5),(7,x7),(8,x8),(9,x9),(10,x10),(15,x15),(18,.pointer (some ⟨q18,0,none⟩)),(19,.pointer (some ⟨q19,0,none⟩)),(74,x74),(75,x75),(76,x76),(97,x97),(98,x98),(99,x99)]∧u.heap=w.heap) ⟨A,[]⟩ w:=by
 subst hok
 rw[hk]at f0
 clear hk
 obtain⟨hsz,k1,k5,k7,k8,k9,k10,k15,k18,k19,k74,k75,k76,k97,k98,k99,_⟩:=hA
 obtain⟨s,rfl⟩:=krtT_of hsz
 change s 1=_ at k1
 change s 5=_ at k5
 change s 7=_ at k7
 change s 8=_ at k8
 change s 9=_ at k9
 change s 10=_ at k10
 change s 15=_ at k15
 change s 18=_ at k18
 change s 19=_ at k19
 change s 74=_ at k74
 change s 75=_ at k75
 change s 76=_ at k76
 change s 97=_ at k97
 change s 98=_ at k98
 change s 99=_ at k99
 clear hsz
 simp only[krts39,krtBody,pC,Try.f42,Option.getD_some,krtT,k1,k5,k7,k8,k9,k10,k15,k18,k19,k74,k75,k76,k97,k98,k99]
 clear k1 k5 k7 k8 k9 k10 k15 k18 k19 k74 k75 k76 k97 k98 k99
 go_wp2
 exact⟨rfl,⟨rfl,rfl,rfl,rfl,rfl,rfl,rfl,rfl,rfl,rfl,rfl,rfl,rfl,rfl,rfl,rfl,trivial⟩,rfl⟩
theorem krt_41y{q18 q19:Nat}{o:Op4}{ok:Bool}{z:Int}(f0:w.cell? ⟨q18,0,none⟩=some (.int .i64 o.kd))(f1:w.cell? ⟨q18,1,none⟩=some (.int .i64 o.a))(g0:w.cell? ⟨q19,0,none⟩=some (.bool ok))(g1:w.cell? ⟨q19,1,none⟩=some (.int .i64 z))(hk:o.kd=2)(hok:ok=true){B n:Nat}{f:Int→Nat}(hM:MapF w B n f)(hn:n<1000000)(ha: -1000000000000<z∧z<1000000000000)(hf:f z<1000000){x1 x5 x7 x8 x10 x74 x75 x76 x15 x97 x98 x99:Value}{A:Array Value}(hA:Slots 249 A [(1,x1),(5,x5),(7,x7),(8,x8),(9,.map (some B)),(10,x10),(15,x15),(18,.pointer (some ⟨q18,0,none⟩)),(19,.pointer (some ⟨q19,0,none⟩)),(74,x74),(75,x75),(76,x76),(97,x97),(98,x98),(99,x99)]):
 krts41.wp Try.prog (nrm fun a u=>a.defers=[]∧Slots 249 a.tmps [(1,x1),(5,x5),(7,x7),(8,x8),(9,.map (some B)),(10,x10),(15,x15),(18,.pointer (some ⟨q18,0,none⟩)),(19,.pointer (some ⟨q19,0,none⟩)),(74,x74),(75,x75),(76,x76),(97,x97),(98,x98),(99,x99)]∧w.grownBy u (some B)∧MapF u B (n+1) (inc f z)) ⟨A,[]⟩ w:=by
 subst hok
 obtain⟨D,hown,hD⟩:=hM
 have hdm:=ownsMap_isMap hown
 have hwf:=wf_small ha
 have hw1:IntKind.i64.wrap ((f z:Int)+1)=(f z:Int)+1:=IntWalk.i64_in _ (by omega)
 have hwf1:(Lit.int .i64 ((f z:Int)+1)).wf=true:=WalkArith.wf_i64 (by omega)
 have DD:Aside (MapD D f):=hD
 have HF:Aside (f z<1000000):=hf
 clear hD hf
 rw[hk]at f0
 clear hk
 obtain⟨hsz,k1,k5,k7,k8,k9,k10,k15,k18,k19,k74,k75,k76,k97,k98,k99,_⟩:=hA
 obtain⟨s,rfl⟩:=krtT_of hsz
 change s 1=_ at k1
 change s 5=_ at k5
 change s 7=_ at k7
 change s 8=_ at k8
 change s 9=_ at k9
 change s 10=_ at k10
 change s 15=_ at k15
 change s 18=_ at k18
 change s 19=_ at k19
 change s 74=_ at k74
 change s 75=_ at k75
 change s 76=_ at k76
 change s 97=_ at k97
 change s 98=_ at k98
 change s 99=_ at k99
 clear hsz
 simp only[krts41,krtBody,pC,Try.f42,Option.getD_some,krtT,k1,k5,k7,k8,k9,k10,k15,k18,k19,k74,k75,k76,k97,k98,k99]
 clear k1 k5 k7 k8 k9 k10 k15 k18 k19 k74 k75 k76 k97 k98 k99
 go_wp2_with (first
  | (at_lookup;refine wpList_lookup_own_int _ rfl _ _ 135 rfl 2 3 .i64 law2 Try.underlying135 Try.underlying3 (zero3 _) B n _ rfl hown _ _ rfl (keyOf_int_mk Try.underlying2 hwf) ?_;intro c hat hwc;obtain rfl:=DD.out.is hat;clear hat hwc)
  | (at_mapUpdate;refine wpList_mapUpdate_own _ rfl _ _ _ 135 rfl 2 3 law2 Try.underlying135 _ B n _ rfl hown (by unfold maxLen;omega) _ _ _ rfl rfl (keyOf_int_mk Try.underlying2 hwf) _ [] (plainElem_int Try.underlying3 hwf1) ?_;intro w1 hown1 hgrow1;skip)
  | go_in)
 exact⟨rfl,⟨rfl,rfl,rfl,rfl,rfl,rfl,rfl,rfl,rfl,rfl,rfl,rfl,rfl,rfl,rfl,rfl,trivial⟩,hgrow1,_,hown1,DD.out.put hdm _⟩
theorem krt_41a{q18 q19:Nat}{o:Op4}{ok:Bool}{z:Int}(f0:w.cell? ⟨q18,0,none⟩=some (.int .i64 o.kd))(f1:w.cell? ⟨q18,1,none⟩=some (.int .i64 o.a))(g0:w.cell? ⟨q19,0,none⟩=some (.bool ok))(g1:w.cell? ⟨q19,1,none⟩=some (.int .i64 z))(hk:(o.kd == 2)=false){x1 x5 x7 x8 x9 x10 x74 x75 x76 x15 x97 x98 x99:Value}{A:Array Value}(hA:Slots 249 A [(1,x1),(5,x5),(7,x7),(8,x8),(9,x9),(10,x10),(15,x15),(18,.pointer (some ⟨q18,0,none⟩)),(19,.pointer (some ⟨q19,0,none⟩)),(74,x74),(75,x75),(76,x76),(97,x97),(98,x98),(99,x99)]):
 krts41.wp Try.prog (nrm fun a u=>a.defers=[]∧Slots 249 a.tmps [(1,x1),(5,x5),(7,x7),(8,x8),(9,x9),(10,x10),(15,x15),(18,.pointer (some ⟨q18,0,none⟩)),(19,.pointer (some ⟨q19,0,none⟩)),(74,x74),(75,x75),(76,x76),(97,x97),(98,x98),(99,x99)]∧u.heap=w.heap) ⟨A,[]⟩ w:=by
 obtain⟨hsz,k1,k5,k7,k8,k9,k10,k15,k18,k19,k74,k75,k76,k97,k98,k99,_⟩:=hA
 obtain⟨s,rfl⟩:=krtT_of hsz
 change s 1=_ at k1
 change s 5=_ at k5
 change s 7=_ at k7
 change s 8=_ at k8
 change s 9=_ at k9
 change s 10=_ at k10
 change s 15=_ at k15
 change s 18=_ at k18
 change s 19=_ at k19
 change s 74=_ at k74
 change s 75=_ at k75
 change s 76=_ at k76
 change s 97=_ at k97
 change s 98=_ at k98
 change s 99=_ at k99
 clear hsz
 simp only[krts41,krtBody,pC,Try.f42,Option.getD_some,krtT,k1,k5,k7,k8,k9,k10,k15,k18,k19,k74,k75,k76,k97,k98,k99]
 clear k1 k5 k7 k8 k9 k10 k15 k18 k19 k74 k75 k76 k97 k98 k99
 go_wp2
 exact⟨rfl,⟨rfl,rfl,rfl,rfl,rfl,rfl,rfl,rfl,rfl,rfl,rfl,rfl,rfl,rfl,rfl,rfl,trivial⟩,rfl⟩
theorem krt_41b{q18 q19:Nat}{o:Op4}{ok:Bool}{z:Int}(f0:w.cell? ⟨q18,0,none⟩=some (.int .i64 o.kd))(f1:w.cell? ⟨q18,1,none⟩=some (.int .i64 o.a))(g0:w.cell? ⟨q19,0,none⟩=some (.bool ok))(g1:w.cell? ⟨q19,1,none⟩=some (.int .i64 z))(hk:o.kd=2)(hok:ok=false){x1 x5 x7 x8 x9 x10 x74 x75 x76 x15 x97 x98 x99:Value}{A:Array Value}(hA:Slots 249 A [(1,x1),(5,x5),(7,x7),(8,x8),(9,x9),(10,x10),(15,x15),(18,.pointer (some ⟨q18,0,none⟩)),(19,.pointer (some ⟨q19,0,none⟩)),(74,x74),(75,x75),(76,x76),(97,x97),(98,x98),(99,x99)]):
 krts41.wp Try.prog (nrm fun a u=>a.defers=[]∧Slots 249 a.tmps [(1,x1),(5,x5),(7,x7),(8,x8),(9,x9),(10,x10),(15,x15),(18,.pointer (some ⟨q18,0,none⟩)),(19,.pointer (some ⟨q19,0,none⟩)),(74,x74),(75,x75),(76,x76),(97,x97),(98,x98),(99,x99)]∧u.heap=w.heap) ⟨A,[]⟩ w:=by
 subst hok
 rw[hk]at f0
 clear hk
 obtain⟨hsz,k1,k5,k7,k8,k9,k10,k15,k18,k19,k74,k75,k76,k97,k98,k99,_⟩:=hA
 obtain⟨s,rfl⟩:=krtT_of hsz
 change s 1=_ at k1
 change s 5=_ at k5
 change s 7=_ at k7
 change s 8=_ at k8
 change s 9=_ at k9
 change s 10=_ at k10
 change s 15=_ at k15
 change s 18=_ at k18
 change s 19=_ at k19
 change s 74=_ at k74
 change s 75=_ at k75
 change s 76=_ at k76
 change s 97=_ at k97
 change s 98=_ at k98
 change s 99=_ at k99
 clear hsz
 simp only[krts41,krtBody,pC,Try.f42,Option.getD_some,krtT,k1,k5,k7,k8,k9,k10,k15,k18,k19,k74,k75,k76,k97,k98,k99]
 clear k1 k5 k7 k8 k9 k10 k15 k18 k19 k74 k75 k76 k97 k98 k99
 go_wp2
 exact⟨rfl,⟨rfl,rfl,rfl,rfl,rfl,rfl,rfl,rfl,rfl,rfl,rfl,rfl,rfl,rfl,rfl,rfl,trivial⟩,rfl⟩
theorem krt_42a{q18 q19:Nat}{o:Op4}{ok:Bool}{z:Int}(f0:w.cell? ⟨q18,0,none⟩=some (.int .i64 o.kd))(f1:w.cell? ⟨q18,1,none⟩=some (.int .i64 o.a))(g0:w.cell? ⟨q19,0,none⟩=some (.bool ok))(g1:w.cell? ⟨q19,1,none⟩=some (.int .i64 z))(hk:(o.kd == 2)=false)(hk3:(o.kd == 3)=false){x1 x5 x7 x8 x9 x10 x74 x75 x76 x15 x97 x98 x99:Value}{A:Array Value}(hA:Slots 249 A [(1,x1),(5,x5),(7,x7),(8,x8),(9,x9),(10,x10),(15,x15),(18,.pointer (some ⟨q18,0,none⟩)),(19,.pointer (some ⟨q19,0,none⟩)),(74,x74),(75,x75),(76,x76),(97,x97),(98,x98),(99,x99)]):
 krts42.wp Try.prog (nrm fun a u=>a.defers=[]∧Slots 249 a.tmps [(1,x1),(5,x5),(7,x7),(8,x8),(9,x9),(10,x10),(15,x15),(74,x74),(75,x75),(76,x76),(97,x97),(98,x98),(99,x99)]∧u.heap=w.heap) ⟨A,[]⟩ w:=by
 obtain⟨hsz,k1,k5,k7,k8,k9,k10,k15,k18,k19,k74,k75,k76,k97,k98,k99,_⟩:=hA
 obtain⟨s,rfl⟩:=krtT_of hsz
 change s 1=_ at k1
 change s 5=_ at k5
 change s 7=_ at k7
 change s 8=_ at k8
 change s 9=_ at k9
 change s 10=_ at k10
 change s 15=_ at k15
 change s 18=_ at k18
 change s 19=_ at k19
 change s 74=_ at k74
 change s 75=_ at k75
 change s 76=_ at k76
 change s 97=_ at k97
 change s 98=_ at k98
 change s 99=_ at k99
 clear hsz
 simp only[krts42,krtBody,pC,Try.f42,Option.getD_some,krtT,k1,k5,k7,k8,k9,k10,k15,k18,k19,k74,k75,k76,k97,k98,k99]
 clear k1 k5 k7 k8 k9 k10 k15 k18 k19 k74 k75 k76 k97 k98 k99
 go_wp2
 exact⟨rfl,⟨rfl,rfl,rfl,rfl,rfl,rfl,rfl,rfl,rfl,rfl,rfl,rfl,rfl,rfl,trivial⟩,rfl⟩
theorem krt_42y2{q18 q19:Nat}{o:Op4}{ok:Bool}{z:Int}(f0:w.cell? ⟨q18,0,none⟩=some (.int .i64 o.kd))(f1:w.cell? ⟨q18,1,none⟩=some (.int .i64 o.a))(g0:w.cell? ⟨q19,0,none⟩=some (.bool ok))(g1:w.cell? ⟨q19,1,none⟩=some (.int .i64 z))(hk:o.kd=2)(hok:ok=true){B n:Nat}{f:Int→Nat}(hM:MapF w B n f)(hb:0<f z)(ha: -1000000000000<z∧z<1000000000000){x1 x5 x7 x8 x9 x74 x75 x76 x15 x97 x98 x99:Value}{A:Array Value}(hA:Slots 249 A [(1,x1),(5,x5),(7,x7),(8,x8),(9,x9),(10,.map (some B)),(15,x15),(18,.pointer (some ⟨q18,0,none⟩)),(19,.pointer (some ⟨q19,0,none⟩)),(74,x74),(75,x75),(76,x76),(97,x97),(98,x98),(99,x99)]):
 krts42.wp Try.prog (nrm fun a u=>a.defers=[]∧Slots 249 a.tmps [(1,x1),(5,x5),(7,x7),(8,x8),(9,x9),(10,.map (some B)),(15,x15),(74,x74),(75,x75),(76,x76),(97,x97),(98,x98),(99,x99)]∧u.heap=w.heap) ⟨A,[]⟩ w:=by
 subst hok
 obtain⟨D,hown,hD⟩:=hM
 have hwf:=wf_small ha
 have hb2:((f z:Int) == 0)=false:=by simp;omega
 obtain⟨c,hrun,hat,_⟩:=hown.lookup_int law2 Try.underlying135 Try.underlying3 (zero3 _) (keyOf_int_mk Try.underlying2 hwf)
 obtain rfl:=hD.is hat
 clear hD hb hat hown
 rw[hk]at f0
 clear hk
 obtain⟨hsz,k1,k5,k7,k8,k9,k10,k15,k18,k19,k74,k75,k76,k97,k98,k99,_⟩:=hA
 obtain⟨s,rfl⟩:=krtT_of hsz
 change s 1=_ at k1
 change s 5=_ at k5
 change s 7=_ at k7
 change s 8=_ at k8
 change s 9=_ at k9
 change s 10=_ at k10
 change s 15=_ at k15
 change s 18=_ at k18
 change s 19=_ at k19
 change s 74=_ at k74
 change s 75=_ at k75
 change s 76=_ at k76
 change s 97=_ at k97
 change s 98=_ at k98
 change s 99=_ at k99
 clear hsz
 simp only[krts42,krtBody,pC,Try.f42,Option.getD_some,krtT,k1,k5,k7,k8,k9,k10,k15,k18,k19,k74,k75,k76,k97,k98,k99]
 clear k1 k5 k7 k8 k9 k10 k15 k18 k19 k74 k75 k76 k97 k98 k99
 go_wp2
 exact⟨rfl,⟨rfl,rfl,rfl,rfl,rfl,rfl,rfl,rfl,rfl,rfl,rfl,rfl,rfl,rfl,trivial⟩,rfl⟩
theorem krt_42n2{q18 q19:Nat}{o:Op4}{ok:Bool}{z:Int}(f0:w.cell? ⟨q18,0,none⟩=some (.int .i64 o.kd))(f1:w.cell? ⟨q18,1,none⟩=some (.int .i64 o.a))(g0:w.cell? ⟨q19,0,none⟩=some (.bool ok))(g1:w.cell? ⟨q19,1,none⟩=some (.int .i64 z))(hk:o.kd=2)(hok:ok=false)(hz:z=0){x1 x5 x7 x8 x9 x10 x74 x75 x76 x15 x97 x98 x99:Value}{A:Array Value}(hA:Slots 249 A [(1,x1),(5,x5),(7,x7),(8,x8),(9,x9),(10,x10),(15,x15),(18,.pointer (some ⟨q18,0,none⟩)),(19,.pointer (some ⟨q19,0,none⟩)),(74,x74),(75,x75),(76,x76),(97,x97),(98,x98),(99,x99)]):
 krts42.wp Try.prog (nrm fun a u=>a.defers=[]∧Slots 249 a.tmps [(1,x1),(5,x5),(7,x7),(8,x8),(9,x9),(10,x10),(15,x15),(74,x74),(75,x75),(76,x76),(97,x97),(98,x98),(99,x99)]∧u.heap=w.heap) ⟨A,[]⟩ w:=by
 subst hok hz
 rw[hk]at f0
 clear hk
 obtain⟨hsz,k1,k5,k7,k8,k9,k10,k15,k18,k19,k74,k75,k76,k97,k98,k99,_⟩:=hA
 obtain⟨s,rfl⟩:=krtT_of hsz
 change s 1=_ at k1
 change s 5=_ at k5
 change s 7=_ at k7
 change s 8=_ at k8
 change s 9=_ at k9
 change s 10=_ at k10
 change s 15=_ at k15
 change s 18=_ at k18
 change s 19=_ at k19
 change s 74=_ at k74
 change s 75=_ at k75
 change s 76=_ at k76
 change s 97=_ at k97
 change s 98=_ at k98
 change s 99=_ at k99
 clear hsz
 simp only[krts42,krtBody,pC,Try.f42,Option.getD_some,krtT,k1,k5,k7,k8,k9,k10,k15,k18,k19,k74,k75,k76,k97,k98,k99]
 clear k1 k5 k7 k8 k9 k10 k15 k18 k19 k74 k75 k76 k97 k98 k99
 go_wp2
 exact⟨rfl,⟨rfl,rfl,rfl,rfl,rfl,rfl,rfl,rfl,rfl,rfl,rfl,rfl,rfl,rfl,trivial⟩,rfl⟩
theorem krt_42y3{q18 q19:Nat}{o:Op4}{ok:Bool}{z:Int}(f0:w.cell? ⟨q18,0,none⟩=some (.int .i64 o.kd))(f1:w.cell? ⟨q18,1,none⟩=some (.int .i64 o.a))(g0:w.cell? ⟨q19,0,none⟩=some (.bool ok))(g1:w.cell? ⟨q19,1,none⟩=some (.int .i64 z))(hk:o.kd=3)(hok:ok=true){B n:Nat}{f:Int→Nat}(hM:MapF w B n f)(hb:0<f z)(ha: -1000000000000<z∧z<1000000000000){x1 x5 x7 x8 x9 x74 x75 x76 x15 x97 x98 x99:Value}{A:Array Value}(hA:Slots 249 A [(1,x1),(5,x5),(7,x7),(8,x8),(9,x9),(10,.map (some B)),(15,x15),(18,.pointer (some ⟨q18,0,none⟩)),(19,.pointer (some ⟨q19,0,none⟩)),(74,x74),(75,x75),(76,x76),(97,x97),(98,x98),(99,x99)]):
 krts42.wp Try.prog (nrm fun a u=>a.defers=[]∧Slots 249 a.tmps [(1,x1),(5,x5),(7,x7),(8,x8),(9,x9),(10,.map (some B)),(15,x15),(74,x74),(75,x75),(76,x76),(97,x97),(98,x98),(99,x99)]∧u.heap=w.heap) ⟨A,[]⟩ w:=by
 subst hok
 obtain⟨D,hown,hD⟩:=hM
 have hwf:=wf_small ha
 have hb2:((f z:Int) == 0)=false:=by simp;omega
 obtain⟨c,hrun,hat,_⟩:=hown.lookup_int law2 Try.underlying135 Try.underlying3 (zero3 _) (keyOf_int_mk Try.underlying2 hwf)
 obtain rfl:=hD.is hat
 clear hD hb hat hown
 rw[hk]at f0
 clear hk
 obtain⟨hsz,k1,k5,k7,k8,k9,k10,k15,k18,k19,k74,k75,k76,k97,k98,k99,_⟩:=hA
 obtain⟨s,rfl⟩:=krtT_of hsz
 change s 1=_ at k1
 change s 5=_ at k5
 change s 7=_ at k7
 change s 8=_ at k8
 change s 9=_ at k9
 change s 10=_ at k10
 change s 15=_ at k15
 change s 18=_ at k18
 change s 19=_ at k19
 change s 74=_ at k74
 change s 75=_ at k75
 change s 76=_ at k76
 change s 97=_ at k97
 change s 98=_ at k98
 change s 99=_ at k99
 clear hsz
 simp only[krts42,krtBody,pC,Try.f42,Option.getD_some,krtT,k1,k5,k7,k8,k9,k10,k15,k18,k19,k74,k75,k76,k97,k98,k99]
 clear k1 k5 k7 k8 k9 k10 k15 k18 k19 k74 k75 k76 k97 k98 k99
 go_wp2
 exact⟨rfl,⟨rfl,rfl,rfl,rfl,rfl,rfl,rfl,rfl,rfl,rfl,rfl,rfl,rfl,rfl,trivial⟩,rfl⟩
theorem krt_42n3{q18 q19:Nat}{o:Op4}{ok:Bool}{z:Int}(f0:w.cell? ⟨q18,0,none⟩=some (.int .i64 o.kd))(f1:w.cell? ⟨q18,1,none⟩=some (.int .i64 o.a))(g0:w.cell? ⟨q19,0,none⟩=some (.bool ok))(g1:w.cell? ⟨q19,1,none⟩=some (.int .i64 z))(hk:o.kd=3)(hok:ok=false)(hz:z=0){x1 x5 x7 x8 x9 x10 x74 x75 x76 x15 x97 x98 x99:Value}{A:Array Value}(hA:Slots 249 A [(1,x1),(5,x5),(7,x7),(8,x8),(9,x9),(10,x10),(15,x15),(18,.pointer (some ⟨q18,0,none⟩)),(19,.pointer (some ⟨q19,0,none⟩)),(74,x74),(75,x75),(76,x76),(97,x97),(98,x98),(99,x99)]):
 krts42.wp Try.prog (nrm fun a u=>a.defers=[]∧Slots 249 a.tmps [(1,x1),(5,x5),(7,x7),(8,x8),(9,x9),(10,x10),(15,x15),(74,x74),(75,x75),(76,x76),(97,x97),(98,x98),(99,x99)]∧u.heap=w.heap) ⟨A,[]⟩ w:=by
 subst hok hz
 rw[hk]at f0
 clear hk
 obtain⟨hsz,k1,k5,k7,k8,k9,k10,k15,k18,k19,k74,k75,k76,k97,k98,k99,_⟩:=hA
 obtain⟨s,rfl⟩:=krtT_of hsz
 change s 1=_ at k1
 change s 5=_ at k5
 change s 7=_ at k7
 change s 8=_ at k8
 change s 9=_ at k9
 change s 10=_ at k10
 change s 15=_ at k15
 change s 18=_ at k18
 change s 19=_ at k19
 change s 74=_ at k74
 change s 75=_ at k75
 change s 76=_ at k76
 change s 97=_ at k97
 change s 98=_ at k98
 change s 99=_ at k99
 clear hsz
 simp only[krts42,krtBody,pC,Try.f42,Option.getD_some,krtT,k1,k5,k7,k8,k9,k10,k15,k18,k19,k74,k75,k76,k97,k98,k99]
 clear k1 k5 k7 k8 k9 k10 k15 k18 k19 k74 k75 k76 k97 k98 k99
 go_wp2
 exact⟨rfl,⟨rfl,rfl,rfl,rfl,rfl,rfl,rfl,rfl,rfl,rfl,rfl,rfl,rfl,rfl,trivial⟩,rfl⟩
theorem krt_31{i:Nat}(hi:i<1000000000){x1 x5 x7 x8 x9 x10 x74 x75 x76 x15 x97 x98:Value}{A:Array Value}(hA:Slots 249 A [(1,x1),(5,x5),(7,x7),(8,x8),(9,x9),(10,x10),(15,x15),(74,x74),(75,x75),(76,x76),(97,x97),(98,x98),(99,.int .i64 i)]):
 krtr31.wp Try.prog (nrm fun a u=>a.defers=[]∧Slots 249 a.tmps [(1,x1),(5,x5),(7,x7),(8,x8),(9,x9),(10,x10),(15,x15),(74,x74),(75,x75),(76,x76),(97,x97),(98,x98),(99,.int .i64 (i+1:Nat))]∧u.heap=w.heap) ⟨A,[]⟩ w:=by
 have hwr:IntKind.i64.wrap ((i:Int)+1)=((i+1:Nat):Int):=IntWalk.i64_in _ (by omega)
 obtain⟨hsz,k1,k5,k7,k8,k9,k10,k15,k74,k75,k76,k97,k98,k99,_⟩:=hA
 obtain⟨s,rfl⟩:=krtT_of hsz
 change s 1=_ at k1
 change s 5=_ at k5
 change s 7=_ at k7
 change s 8=_ at k8
 change s 9=_ at k9
 change s 10=_ at k10
 change s 15=_ at k15
 change s 74=_ at k74
 change s 75=_ at k75
 change s 76=_ at k76
 change s 97=_ at k97
 change s 98=_ at k98
 change s 99=_ at k99
 clear hsz
 simp only[krtr31,krtBody,pC,Try.f42,Option.getD_some,krtT,k1,k5,k7,k8,k9,k10,k15,k74,k75,k76,k97,k98,k99]
 clear k1 k5 k7 k8 k9 k10 k15 k74 k75 k76 k97 k98 k99
 go_wp2
 exact⟨rfl,⟨rfl,rfl,rfl,rfl,rfl,rfl,rfl,rfl,rfl,rfl,rfl,rfl,rfl,rfl,trivial⟩,rfl⟩
theorem krt_32{i:Nat}(hi:i<1000000000){x1 x5 x7 x8 x9 x10 x74 x75:Value}{A:Array Value}(hA:Slots 249 A [(1,x1),(5,x5),(7,x7),(8,x8),(9,x9),(10,x10),(74,x74),(75,x75),(76,.int .i64 i)]):
 krtr32.wp Try.prog (nrm fun a u=>a.defers=[]∧Slots 249 a.tmps [(1,x1),(5,x5),(7,x7),(8,x8),(9,x9),(10,x10),(74,x74),(75,x75),(76,.int .i64 (i+1:Nat))]∧u.heap=w.heap) ⟨A,[]⟩ w:=by
 have hwr:IntKind.i64.wrap ((i:Int)+1)=((i+1:Nat):Int):=IntWalk.i64_in _ (by omega)
 obtain⟨hsz,k1,k5,k7,k8,k9,k10,k74,k75,k76,_⟩:=hA
 obtain⟨s,rfl⟩:=krtT_of hsz
 change s 1=_ at k1
 change s 5=_ at k5
 change s 7=_ at k7
 change s 8=_ at k8
 change s 9=_ at k9
 change s 10=_ at k10
 change s 74=_ at k74
 change s 75=_ at k75
 change s 76=_ at k76
 clear hsz
 simp only[krtr32,krtBody,pC,Try.f42,Option.getD_some,krtT,k1,k5,k7,k8,k9,k10,k74,k75,k76]
 clear k1 k5 k7 k8 k9 k10 k74 k75 k76
 go_wp2
 exact⟨rfl,⟨rfl,rfl,rfl,rfl,rfl,rfl,rfl,rfl,rfl,rfl,trivial⟩,rfl⟩
def R33(b5 sb so n:Nat)(x1 x7 x8 x9 x10:Value)(w:World)(a:Act)(u:World):Prop:=a.defers=[]∧∃a9 c9,(4<n→a9=some ⟨sb,so+4,none⟩)∧Slots 249 a.tmps [(1,x1),(5,.pointer (some ⟨b5,0,none⟩)),(7,x7),(8,x8),(9,x9),(10,x10),(169,.slice a9 (n - 4:Nat) c9),(170,.int .i64 (n - 4:Nat)),(171,.int .i64 (0:Nat))]∧u.heap=w.heap
theorem krt_33{b5 sb so n sc:Nat}(h5:w.cell? ⟨b5,2,none⟩=some (.slice (some ⟨sb,so,none⟩) n sc))(hs:4≤n∧n≤sc){x1 x7 x8 x9 x10:Value}{A:Array Value}(hA:Slots 249 A [(1,x1),(5,.pointer (some ⟨b5,0,none⟩)),(7,x7),(8,x8),(9,x9),(10,x10)]):
 krtr33.wp Try.prog (nrm (R33 b5 sb so n x1 x7 x8 x9 x10 w)) ⟨A,[]⟩ w:=by
 have hs2:(4:Int)≤(n:Int):=by omega
 have hs3:(n:Int)≤(sc:Int):=by omega
 obtain⟨hsz,k1,k5,k7,k8,k9,k10,_⟩:=hA
 obtain⟨s,rfl⟩:=krtT_of hsz
 change s 1=_ at k1
 change s 5=_ at k5
 change s 7=_ at k7
 change s 8=_ at k8
 change s 9=_ at k9
 change s 10=_ at k10
 clear hsz
 simp only[krtr33,krtBody,pC,Try.f42,Option.getD_some,krtT,k1,k5,k7,k8,k9,k10]
 clear k1 k5 k7 k8 k9 k10
 go_wp2
 all_goals exact⟨rfl,_,_,fun h=>(by first|rfl|omega),⟨rfl,rfl,rfl,rfl,rfl,rfl,rfl,rfl,rfl,rfl,trivial⟩,rfl⟩
theorem krt_34{i N:Nat}{x1 x5 x7 x8 x9 x10 x169:Value}{A:Array Value}(hA:Slots 249 A [(1,x1),(5,x5),(7,x7),(8,x8),(9,x9),(10,x10),(169,x169),(170,.int .i64 N),(171,.int .i64 i)]):
 krtr34.wp Try.prog (nrm fun a u=>a.defers=[]∧Slots 249 a.tmps [(1,x1),(5,x5),(7,x7),(8,x8),(9,x9),(10,x10),(169,x169),(170,.int .i64 N),(171,.int .i64 i),(172,.bool (decide (i<N)))]∧u.heap=w.heap) ⟨A,[]⟩ w:=by
 obtain⟨hsz,k1,k5,k7,k8,k9,k10,k169,k170,k171,_⟩:=hA
 obtain⟨s,rfl⟩:=krtT_of hsz
 change s 1=_ at k1
 change s 5=_ at k5
 change s 7=_ at k7
 change s 8=_ at k8
 change s 9=_ at k9
 change s 10=_ at k10
 change s 169=_ at k169
 change s 170=_ at k170
 change s 171=_ at k171
 clear hsz
 simp only[krtr34,krtBody,pC,Try.f42,Option.getD_some,krtT,k1,k5,k7,k8,k9,k10,k169,k170,k171]
 clear k1 k5 k7 k8 k9 k10 k169 k170 k171
 go_wp2
 exact⟨rfl,⟨rfl,rfl,rfl,rfl,rfl,rfl,rfl,rfl,rfl,rfl,rfl,trivial⟩,rfl⟩
theorem krt_35{i n tb to tc:Nat}{v:Value}(hi:i<n)(h0:w.cell? ⟨tb,to+i,none⟩=some v){x1 x5 x7 x8 x9 x10 x170:Value}{A:Array Value}(hA:Slots 249 A [(1,x1),(5,x5),(7,x7),(8,x8),(9,x9),(10,x10),(169,.slice (some ⟨tb,to,none⟩) n tc),(170,x170),(171,.int .i64 i)]):
 krtr35.wp Try.prog (nrm fun a u=>a.defers=[]∧Slots 249 a.tmps [(1,x1),(5,x5),(7,x7),(8,x8),(9,x9),(10,x10),(21,v),(169,.slice (some ⟨tb,to,none⟩) n tc),(170,x170),(171,.int .i64 i)]∧u.heap=w.heap) ⟨A,[]⟩ w:=by
 have hi2:(i:Int)<(n:Int):=by omega
 obtain⟨hsz,k1,k5,k7,k8,k9,k10,k169,k170,k171,_⟩:=hA
 obtain⟨s,rfl⟩:=krtT_of hsz
 change s 1=_ at k1
 change s 5=_ at k5
 change s 7=_ at k7
 change s 8=_ at k8
 change s 9=_ at k9
 change s 10=_ at k10
 change s 169=_ at k169
 change s 170=_ at k170
 change s 171=_ at k171
 clear hsz
 simp only[krtr35,krtBody,pC,Try.f42,Option.getD_some,krtT,k1,k5,k7,k8,k9,k10,k169,k170,k171]
 clear k1 k5 k7 k8 k9 k10 k169 k170 k171
 go_wp2
 exact⟨rfl,⟨rfl,rfl,rfl,rfl,rfl,rfl,rfl,rfl,rfl,rfl,rfl,trivial⟩,rfl⟩
theorem krt_36{v:Int}{B n:Nat}{f:Int→Nat}(hM:MapF w B n f)(hn:n<1000000)(ha: -1000000000000<v∧v<1000000000000)(hf:f v<1000000){x1 x5 x8 x9 x10 x169 x170 x171:Value}{A:Array Value}(hA:Slots 249 A [(1,x1),(5,x5),(7,.map (some B)),(8,x8),(9,x9),(10,x10),(21,.int .i64 v),(169,x169),(170,x170),(171,x171)]):
 krtr36.wp Try.prog (nrm fun a u=>a.defers=[]∧Slots 249 a.tmps [(1,x1),(5,x5),(7,.map (some B)),(8,x8),(9,x9),(10,x10),(169,x169),(170,x170),(171,x171)]∧w.grownBy u (some B)∧MapF u B (n+1) (inc f v)) ⟨A,[]⟩ w:=by
 obtain⟨D,hown,hD⟩:=hM
 have hdm:=ownsMap_isMap hown
 have hwf:=wf_small ha
 have hw1:IntKind.i64.wrap ((f v:Int)+1)=(f v:Int)+1:=IntWalk.i64_in _ (by omega)
 have hwf1:(Lit.int .i64 ((f v:Int)+1)).wf=true:=WalkArith.wf_i64 (by omega)
 have DD:Aside (MapD D f):=hD
 have HF:Aside (f v<1000000):=hf
 clear hD hf
 obtain⟨hsz,k1,k5,k7,k8,k9,k10,k21,k169,k170,k171,_⟩:=hA
 obtain⟨s,rfl⟩:=krtT_of hsz
 change s 1=_ at k1
 change s 5=_ at k5
 change s 7=_ at k7
 change s 8=_ at k8
 change s 9=_ at k9
 change s 10=_ at k10
 change s 21=_ at k21
 change s 169=_ at k169
 change s 170=_ at k170
 change s 171=_ at k171
 clear hsz
 simp only[krtr36,krtBody,pC,Try.f42,Option.getD_some,krtT,k1,k5,k7,k8,k9,k10,k21,k169,k170,k171]
 clear k1 k5 k7 k8 k9 k10 k21 k169 k170 k171
 go_wp2_with (first
  | (at_lookup;refine wpList_lookup_own_int _ rfl _ _ 135 rfl 2 3 .i64 law2 Try.underlying135 Try.underlying3 (zero3 _) B n _ rfl hown _ _ rfl (keyOf_int_mk Try.underlying2 hwf) ?_;intro c hat hwc;obtain rfl:=DD.out.is hat;clear hat hwc)
  | (at_mapUpdate;refine wpList_mapUpdate_own _ rfl _ _ _ 135 rfl 2 3 law2 Try.underlying135 _ B n _ rfl hown (by unfold maxLen;omega) _ _ _ rfl rfl (keyOf_int_mk Try.underlying2 hwf) _ [] (plainElem_int Try.underlying3 hwf1) ?_;intro w1 hown1 hgrow1;skip)
  | go_in)
 exact⟨rfl,⟨rfl,rfl,rfl,rfl,rfl,rfl,rfl,rfl,rfl,rfl,trivial⟩,hgrow1,_,hown1,DD.out.put hdm _⟩
theorem krt_37{i:Nat}(hi:i<1000000000){x1 x5 x7 x8 x9 x10 x169 x170:Value}{A:Array Value}(hA:Slots 249 A [(1,x1),(5,x5),(7,x7),(8,x8),(9,x9),(10,x10),(169,x169),(170,x170),(171,.int .i64 i)]):
 krtr37.wp Try.prog (nrm fun a u=>a.defers=[]∧Slots 249 a.tmps [(1,x1),(5,x5),(7,x7),(8,x8),(9,x9),(10,x10),(169,x169),(170,x170),(171,.int .i64 (i+1:Nat))]∧u.heap=w.heap) ⟨A,[]⟩ w:=by
 have hwr:IntKind.i64.wrap ((i:Int)+1)=((i+1:Nat):Int):=IntWalk.i64_in _ (by omega)
 obtain⟨hsz,k1,k5,k7,k8,k9,k10,k169,k170,k171,_⟩:=hA
 obtain⟨s,rfl⟩:=krtT_of hsz
 change s 1=_ at k1
 change s 5=_ at k5
 change s 7=_ at k7
 change s 8=_ at k8
 change s 9=_ at k9
 change s 10=_ at k10
 change s 169=_ at k169
 change s 170=_ at k170
 change s 171=_ at k171
 clear hsz
 simp only[krtr37,krtBody,pC,Try.f42,Option.getD_some,krtT,k1,k5,k7,k8,k9,k10,k169,k170,k171]
 clear k1 k5 k7 k8 k9 k10 k169 k170 k171
 go_wp2
 exact⟨rfl,⟨rfl,rfl,rfl,rfl,rfl,rfl,rfl,rfl,rfl,rfl,trivial⟩,rfl⟩
theorem krt_38 {x1 x5 x7 x8 x9 x10:Value}{A:Array Value}(hA:Slots 249 A [(1,x1),(5,x5),(7,x7),(8,x8),(9,x9),(10,x10)]):
 krtr38.wp Try.prog (nrm fun a u=>a.defers=[]∧Slots 249 a.tmps [(1,x1),(5,x5),(7,x7),(8,x8),(9,x9),(10,x10),(22,.int .i64 (0:Nat))]∧u.heap=w.heap) ⟨A,[]⟩ w:=by
 obtain⟨hsz,k1,k5,k7,k8,k9,k10,_⟩:=hA
 obtain⟨s,rfl⟩:=krtT_of hsz
 change s 1=_ at k1
 change s 5=_ at k5
 change s 7=_ at k7
 change s 8=_ at k8
 change s 9=_ at k9
 change s 10=_ at k10
 clear hsz
 simp only[krtr38,krtBody,pC,Try.f42,Option.getD_some,krtT,k1,k5,k7,k8,k9,k10]
 clear k1 k5 k7 k8 k9 k10
 go_wp2
 exact⟨rfl,⟨rfl,rfl,rfl,rfl,rfl,rfl,rfl,rfl,trivial⟩,rfl⟩
end
section
open Go.Maps
variable{w w':World}
theorem krt_0{va vb vc vd:Value}{x0 x1:Value}{A:Array Value}(hA:Slots 249 A [(0,x0),(1,x1),(2,.agg #[va,vb,vc,vd])]):
 krtr0.wp Try.prog (nrm fun a u=>a.defers=[]∧Slots 249 a.tmps [(0,x0),(1,x1),(5,.pointer (some ⟨w.heap.size,0,none⟩))]∧u.heap=(w.alloc (.cells #[va,vb,vc,vd] 31)).heap) ⟨A,[]⟩ w:=by
 obtain⟨hsz,k0,k1,k2,_⟩:=hA
 obtain⟨s,rfl⟩:=krtT_of hsz
 change s 0=_ at k0
 change s 1=_ at k1
 change s 2=_ at k2
 clear hsz
 simp only[krtr0,krtBody,pC,Try.f42,Option.getD_some,krtT,k0,k1,k2]
 clear k0 k1 k2
 go_wp2
 exact⟨rfl,⟨rfl,rfl,rfl,rfl,trivial⟩,rfl⟩
theorem krt_2{n0 b5 n tc rc sl sc:Nat}{ta ra sa:Option Addr}(h0:w.cell? ⟨b5,0,none⟩=some (.slice ra n rc))(h2:w.cell? ⟨b5,2,none⟩=some (.slice sa sl sc))(h4:4≤sl∧sl≤n0+4)(hb:sl<1000000000){A:Array Value}(hA:Slots 249 A [(0,.int .i64 n0),(1,.slice ta n tc),(5,.pointer (some ⟨b5,0,none⟩))]):
 krts2.wp Try.prog (nrm fun a u=>a.defers=[]∧Slots 249 a.tmps [(1,.slice ta n tc),(5,.pointer (some ⟨b5,0,none⟩))]∧u.heap=w.heap) ⟨A,[]⟩ w:=by
 have q1:decide ((sl:Int)<4)=false:=by simp;omega
 have q1b:decide (sl<4)=false:=by simp;omega
 have q2:IntKind.i64.wrap ((sl:Int) - 4)=(sl:Int) - 4:=IntWalk.i64_in _ (by omega)
 have q3:decide ((n0:Int)<(sl:Int) - 4)=false:=by simp;omega
 have q4:¬(sl:Int)<4:=by omega
 have q5:¬(n0:Int)<(sl:Int) - 4:=by omega
 have q6:¬sl<4:=by omega
 obtain⟨hsz,k0,k1,k5,_⟩:=hA
 obtain⟨s,rfl⟩:=krtT_of hsz
 change s 0=_ at k0
 change s 1=_ at k1
 change s 5=_ at k5
 clear hsz
 simp only[krts2,krtBody,pC,Try.f42,Option.getD_some,krtT,k0,k1,k5]
 clear k0 k1 k5
 go_wp2
 exact⟨rfl,⟨rfl,rfl,rfl,trivial⟩,rfl⟩
theorem krt_3 {x1 x5:Value}{A:Array Value}(hA:Slots 249 A [(1,x1),(5,x5)]):
 krtr3.wp Try.prog (nrm fun a u=>a.defers=[]∧Slots 249 a.tmps [(1,x1),(5,x5),(7,.map (some w.heap.size))]∧u.heap=(w.alloc (.map #[] 0)).heap) ⟨A,[]⟩ w:=by
 have hmm:= @run_makeMap Try.prog
 obtain⟨hsz,k1,k5,_⟩:=hA
 obtain⟨s,rfl⟩:=krtT_of hsz
 change s 1=_ at k1
 change s 5=_ at k5
 clear hsz
 simp only[krtr3,krtBody,pC,Try.f42,Option.getD_some,krtT,k1,k5]
 clear k1 k5
 go_wp2
 exact⟨rfl,⟨rfl,rfl,rfl,rfl,trivial⟩,rfl⟩
theorem krt_4 {x1 x5 x7:Value}{A:Array Value}(hA:Slots 249 A [(1,x1),(5,x5),(7,x7)]):
 krtr4.wp Try.prog (nrm fun a u=>a.defers=[]∧Slots 249 a.tmps [(1,x1),(5,x5),(7,x7),(8,.map (some w.heap.size)),(9,.map (some (w.heap.size+1)))]∧u.heap=((w.alloc (.map #[] 0)).alloc (.map #[] 0)).heap) ⟨A,[]⟩ w:=by
 have hmm:= @run_makeMap Try.prog
 obtain⟨hsz,k1,k5,k7,_⟩:=hA
 obtain⟨s,rfl⟩:=krtT_of hsz
 change s 1=_ at k1
 change s 5=_ at k5
 change s 7=_ at k7
 clear hsz
 simp only[krtr4,krtBody,pC,Try.f42,Option.getD_some,krtT,k1,k5,k7]
 clear k1 k5 k7
 go_wp2
 exact⟨rfl,⟨rfl,rfl,rfl,rfl,rfl,rfl,trivial⟩,rfl⟩
theorem krt_5 {x1 x5 x7 x8 x9:Value}{A:Array Value}(hA:Slots 249 A [(1,x1),(5,x5),(7,x7),(8,x8),(9,x9)]):
 krtr5.wp Try.prog (nrm fun a u=>a.defers=[]∧Slots 249 a.tmps [(1,x1),(5,x5),(7,x7),(8,x8),(9,x9),(10,.map (some w.heap.size))]∧u.heap=(w.alloc (.map #[] 0)).heap) ⟨A,[]⟩ w:=by
 have hmm:= @run_makeMap Try.prog
 obtain⟨hsz,k1,k5,k7,k8,k9,_⟩:=hA
 obtain⟨s,rfl⟩:=krtT_of hsz
 change s 1=_ at k1
 change s 5=_ at k5
 change s 7=_ at k7
 change s 8=_ at k8
 change s 9=_ at k9
 clear hsz
 simp only[krtr5,krtBody,pC,Try.f42,Option.getD_some,krtT,k1,k5,k7,k8,k9]
 clear k1 k5 k7 k8 k9
 go_wp2
 exact⟨rfl,⟨rfl,rfl,rfl,rfl,rfl,rfl,rfl,trivial⟩,rfl⟩
def MapR(w:World)(B r n:Nat)(f:Int→Nat)(left:Lit→Bool)(cnt:Nat):Prop:=∃D:DataW Unit,w.ranges Try.prog 2 (plainElem Try.prog 3) B r n D left cnt∧MapD D f
theorem MapR.heap{B r n cnt:Nat}{f:Int→Nat}{left:Lit→Bool}(h:MapR w B r n f left cnt)(e:w'.heap=w.heap):MapR w' B r n f left cnt:=by
 obtain⟨D,h1,h2⟩:=h
 refine⟨D,?_,h2⟩
 unfold World.ranges at h1 ⊢
 rw[e]
 exact h1
def R39(B n:Nat)(f:Int→Nat)(x1 x5 x7 x8 x10 x22:Value)(w:World)(a:Act)(u:World):Prop:=a.defers=[]∧∃left cnt,Slots 249 a.tmps [(1,x1),(5,x5),(7,x7),(8,x8),(9,.map (some B)),(10,x10),(22,x22),(181,.pointer (some ⟨w.heap.size,0,none⟩))]∧MapR u B w.heap.size n f left cnt∧w.grownBy u none
theorem krt_39{B n:Nat}{f:Int→Nat}(hM:MapF w B n f){x1 x5 x7 x8 x10 x22:Value}{A:Array Value}(hA:Slots 249 A [(1,x1),(5,x5),(7,x7),(8,x8),(9,.map (some B)),(10,x10),(22,x22)]):
 krtr39.wp Try.prog (nrm (R39 B n f x1 x5 x7 x8 x10 x22 w)) ⟨A,[]⟩ w:=by
 obtain⟨D,hown,hD⟩:=hM
 have DD:Aside (MapD D f):=hD
 clear hD
 obtain⟨hsz,k1,k5,k7,k8,k9,k10,k22,_⟩:=hA
 obtain⟨s,rfl⟩:=krtT_of hsz
 change s 1=_ at k1
 change s 5=_ at k5
 change s 7=_ at k7
 change s 8=_ at k8
 change s 9=_ at k9
 change s 10=_ at k10
 change s 22=_ at k22
 clear hsz
 simp only[krtr39,krtBody,pC,Try.f42,Option.getD_some,krtT,k1,k5,k7,k8,k9,k10,k22]
 clear k1 k5 k7 k8 k9 k10 k22
 go_wp2_with (first
  | (at_range;refine wpList_range_own _ rfl _ 135 rfl 2 3 law2 Try.underlying135 _ B n _ rfl hown ?_;intro w0 hrg0 hg0 hs0;go_frame)
  | go_in)
 exact⟨rfl,_,_,⟨rfl,rfl,rfl,rfl,rfl,rfl,rfl,rfl,rfl,trivial⟩,⟨_,hrg0,DD.out⟩,hg0⟩
def R40(B r n:Nat)(f:Int→Nat)(left:Lit→Bool)(cnt:Nat)(x1 x5 x7 x8 x9 x10 x22:Value)(w:World)(a:Act)(u:World):Prop:=a.defers=[]∧Slots 249 a.tmps [(1,x1),(5,x5),(7,x7),(8,x8),(9,x9),(10,x10),(22,x22),(181,.pointer (some ⟨r,0,none⟩))]∧
 ((a.tmps.getD 183 undef= .bool false∧u.heap=w.heap)∨
  (a.tmps.getD 183 undef= .bool true∧∃(x:Int) (cnt':Nat),left (.int .i64 x)=true∧0<f x∧-9223372036854775808≤x∧x≤9223372036854775807∧cnt'<cnt∧MapR u B r n f (fun z=>left z && !z.sameKey (.int .i64 x)) cnt'∧w.grownBy u (some r)∧(Instr.entry (.pointer (some ⟨r,0,none⟩))).run Try.prog u= .ok (.tuple #[.int .i64 x,.int .i64 (f x)]) u))
theorem krt_40{B r n cnt:Nat}{f:Int→Nat}{left:Lit→Bool}(hM:MapR w B r n f left cnt){x1 x5 x7 x8 x9 x10 x22:Value}{A:Array Value}(hA:Slots 249 A [(1,x1),(5,x5),(7,x7),(8,x8),(9,x9),(10,x10),(22,x22),(181,.pointer (some ⟨r,0,none⟩))]):
 krtr40.wp Try.prog (nrm (R40 B r n f left cnt x1 x5 x7 x8 x9 x10 x22 w)) ⟨A,[]⟩ w:=by
 obtain⟨D,hrg,hD⟩:=hM
 have DD:Aside (MapD D f):=hD
 clear hD
 obtain⟨hsz,k1,k5,k7,k8,k9,k10,k22,k181,_⟩:=hA
 obtain⟨s,rfl⟩:=krtT_of hsz
 change s 1=_ at k1
 change s 5=_ at k5
 change s 7=_ at k7
 change s 8=_ at k8
 change s 9=_ at k9
 change s 10=_ at k10
 change s 22=_ at k22
 change s 181=_ at k181
 clear hsz
 simp only[krtr40,krtBody,pC,Try.f42,Option.getD_some,krtT,k1,k5,k7,k8,k9,k10,k22,k181]
 clear k1 k5 k7 k8 k9 k10 k22 k181
 go_wp2_with (first
  | (at_next;refine wpList_next_ranges_ii _ rfl _ rfl 2 3 .i64 .i64 law2 Try.underlying2 Try.underlying3 B r n _ _ _ rfl hrg ?_ ?_)
  | go_in)
 ·intro _ hl0
  go_wp2
  exact⟨rfl,⟨rfl,rfl,rfl,rfl,rfl,rfl,rfl,rfl,rfl,trivial⟩,.inl ⟨rfl,rfl⟩⟩
 ·intro x c w1 cnt1 hwx hwc hlx hat hrg1 hlt hg1 hs1 hen
  obtain rfl:=DD.out.is (hat _)
  have hpos:=DD.out.2 x (has_true_of_atKey hat)
  have hb:IntKind.i64.min≤x∧x≤9223372036854775807:=by simpa [Lit.wf]using hwx
  go_wp2
  exact⟨rfl,⟨rfl,rfl,rfl,rfl,rfl,rfl,rfl,rfl,rfl,trivial⟩,.inr ⟨rfl,x,cnt1,hlx,hpos,hb.1,hb.2,hlt,⟨_,hrg1,DD.out⟩,hg1,hen⟩⟩
theorem krt_41e{r:Nat}{x c:Int}(hen:(Instr.entry (.pointer (some ⟨r,0,none⟩))).run Try.prog w= .ok (.tuple #[.int .i64 x,.int .i64 c]) w){x1 x5 x7 x8 x9 x10 x22:Value}{A:Array Value}(hA:Slots 249 A [(1,x1),(5,x5),(7,x7),(8,x8),(9,x9),(10,x10),(22,x22),(181,.pointer (some ⟨r,0,none⟩))]):
 krtr41.wp Try.prog (nrm fun a u=>a.defers=[]∧Slots 249 a.tmps [(1,x1),(5,x5),(7,x7),(8,x8),(9,x9),(10,x10),(22,x22),(23,.int .i64 x),(24,.int .i64 c),(181,.pointer (some ⟨r,0,none⟩))]∧u.heap=w.heap) ⟨A,[]⟩ w:=by
 obtain⟨hsz,k1,k5,k7,k8,k9,k10,k22,k181,_⟩:=hA
 obtain⟨s,rfl⟩:=krtT_of hsz
 change s 1=_ at k1
 change s 5=_ at k5
 change s 7=_ at k7
 change s 8=_ at k8
 change s 9=_ at k9
 change s 10=_ at k10
 change s 22=_ at k22
 change s 181=_ at k181
 clear hsz
 simp only[krtr41,krtBody,pC,Try.f42,Option.getD_some,krtT,k1,k5,k7,k8,k9,k10,k22,k181]
 clear k1 k5 k7 k8 k9 k10 k22 k181
 go_wp2
 exact⟨rfl,⟨rfl,rfl,rfl,rfl,rfl,rfl,rfl,rfl,rfl,rfl,rfl,trivial⟩,rfl⟩
theorem krt_58{x:Int}{c:Nat}(hc:c≤1)(hx: -9223372036854775808≤x∧x≤9223372036854775807){B nB:Nat}{f:Int→Nat}(hM:MapF w B nB f){C nC:Nat}{g:Int→Nat}(hN:MapF w C nC g)(hf:0<f x)(hg:g x=0){x1 x5 x8 x9 x22 x181:Value}{A:Array Value}(hA:Slots 249 A [(1,x1),(5,x5),(7,.map (some C)),(8,x8),(9,x9),(10,.map (some B)),(22,x22),(23,.int .i64 x),(24,.int .i64 c),(181,x181)]):
 krts58.wp Try.prog (nrm fun a u=>a.defers=[]∧Slots 249 a.tmps [(1,x1),(5,x5),(7,.map (some C)),(8,x8),(9,x9),(10,.map (some B)),(22,x22),(181,x181)]∧u.heap=w.heap) ⟨A,[]⟩ w:=by
 have hwf:(Lit.int .i64 x).wf=true:=WalkArith.wf_i64 hx
 obtain⟨D1,hown1,hD1⟩:=hM
 obtain⟨c1,hrun1,hat1,_⟩:=hown1.lookup_int law2 Try.underlying135 Try.underlying3 (zero3 _) (keyOf_int_mk Try.underlying2 hwf)
 obtain rfl:=hD1.is hat1
 clear hD1 hat1 hown1
 obtain⟨D2,hown2,hD2⟩:=hN
 obtain⟨c2,hrun2,hat2,_⟩:=hown2.lookup_int law2 Try.underlying135 Try.underlying3 (zero3 _) (keyOf_int_mk Try.underlying2 hwf)
 obtain rfl:=hD2.is hat2
 clear hD2 hat2 hown2
 have q1:decide ((1:Int)<(c:Int))=false:=by simp;omega
 have q1b:¬(1:Int)<(c:Int):=by omega
 have q1c:¬1<c:=by omega
 have q2:((f x:Int) == 0)=false:=by simp;omega
 rw[hg]at hrun2
 clear hf hg hc
 obtain⟨hsz,k1,k5,k7,k8,k9,k10,k22,k23,k24,k181,_⟩:=hA
 obtain⟨s,rfl⟩:=krtT_of hsz
 change s 1=_ at k1
 change s 5=_ at k5
 change s 7=_ at k7
 change s 8=_ at k8
 change s 9=_ at k9
 change s 10=_ at k10
 change s 22=_ at k22
 change s 23=_ at k23
 change s 24=_ at k24
 change s 181=_ at k181
 clear hsz
 simp only[krts58,krtBody,pC,Try.f42,Option.getD_some,krtT,k1,k5,k7,k8,k9,k10,k22,k23,k24,k181]
 clear k1 k5 k7 k8 k9 k10 k22 k23 k24 k181
 go_wp2
 exact⟨rfl,⟨rfl,rfl,rfl,rfl,rfl,rfl,rfl,rfl,rfl,trivial⟩,rfl⟩
def R44(B n:Nat)(f:Int→Nat)(x1 x5 x8 x9 x10 x22:Value)(w:World)(a:Act)(u:World):Prop:=a.defers=[]∧∃left cnt,Slots 249 a.tmps [(1,x1),(5,x5),(7,.map (some B)),(8,x8),(9,x9),(10,x10),(22,x22),(202,.pointer (some ⟨w.heap.size,0,none⟩))]∧MapR u B w.heap.size n f left cnt∧w.grownBy u none
theorem krt_44{B n:Nat}{f:Int→Nat}(hM:MapF w B n f){x1 x5 x8 x9 x10 x22:Value}{A:Array Value}(hA:Slots 249 A [(1,x1),(5,x5),(7,.map (some B)),(8,x8),(9,x9),(10,x10),(22,x22)]):
 krtr44.wp Try.prog (nrm (R44 B n f x1 x5 x8 x9 x10 x22 w)) ⟨A,[]⟩ w:=by
 obtain⟨D,hown,hD⟩:=hM
 have DD:Aside (MapD D f):=hD
 clear hD
 obtain⟨hsz,k1,k5,k7,k8,k9,k10,k22,_⟩:=hA
 obtain⟨s,rfl⟩:=krtT_of hsz
 change s 1=_ at k1
 change s 5=_ at k5
 change s 7=_ at k7
 change s 8=_ at k8
 change s 9=_ at k9
 change s 10=_ at k10
 change s 22=_ at k22
 clear hsz
 simp only[krtr44,krtBody,pC,Try.f42,Option.getD_some,krtT,k1,k5,k7,k8,k9,k10,k22]
 clear k1 k5 k7 k8 k9 k10 k22
 go_wp2_with (first
  | (at_range;refine wpList_range_own _ rfl _ 135 rfl 2 3 law2 Try.underlying135 _ B n _ rfl hown ?_;intro w0 hrg0 hg0 hs0;go_frame)
  | go_in)
 exact⟨rfl,_,_,⟨rfl,rfl,rfl,rfl,rfl,rfl,rfl,rfl,rfl,trivial⟩,⟨_,hrg0,DD.out⟩,hg0⟩
def R45(B r n:Nat)(f:Int→Nat)(left:Lit→Bool)(cnt:Nat)(x1 x5 x7 x8 x9 x10 x22:Value)(w:World)(a:Act)(u:World):Prop:=a.defers=[]∧Slots 249 a.tmps [(1,x1),(5,x5),(7,x7),(8,x8),(9,x9),(10,x10),(22,x22),(202,.pointer (some ⟨r,0,none⟩))]∧
 ((a.tmps.getD 204 undef= .bool false∧u.heap=w.heap)∨
  (a.tmps.getD 204 undef= .bool true∧∃(x:Int) (cnt':Nat),left (.int .i64 x)=true∧0<f x∧-9223372036854775808≤x∧x≤9223372036854775807∧cnt'<cnt∧MapR u B r n f (fun z=>left z && !z.sameKey (.int .i64 x)) cnt'∧w.grownBy u (some r)∧(Instr.entry (.pointer (some ⟨r,0,none⟩))).run Try.prog u= .ok (.tuple #[.int .i64 x,.int .i64 (f x)]) u))
theorem krt_45{B r n cnt:Nat}{f:Int→Nat}{left:Lit→Bool}(hM:MapR w B r n f left cnt){x1 x5 x7 x8 x9 x10 x22:Value}{A:Array Value}(hA:Slots 249 A [(1,x1),(5,x5),(7,x7),(8,x8),(9,x9),(10,x10),(22,x22),(202,.pointer (some ⟨r,0,none⟩))]):
 krtr45.wp Try.prog (nrm (R45 B r n f left cnt x1 x5 x7 x8 x9 x10 x22 w)) ⟨A,[]⟩ w:=by
 obtain⟨D,hrg,hD⟩:=hM
 have DD:Aside (MapD D f):=hD
 clear hD
 obtain⟨hsz,k1,k5,k7,k8,k9,k10,k22,k202,_⟩:=hA
 obtain⟨s,rfl⟩:=krtT_of hsz
 change s 1=_ at k1
 change s 5=_ at k5
 change s 7=_ at k7
 change s 8=_ at k8
 change s 9=_ at k9
 change s 10=_ at k10
 change s 22=_ at k22
 change s 202=_ at k202
 clear hsz
 simp only[krtr45,krtBody,pC,Try.f42,Option.getD_some,krtT,k1,k5,k7,k8,k9,k10,k22,k202]
 clear k1 k5 k7 k8 k9 k10 k22 k202
 go_wp2_with (first
  | (at_next;refine wpList_next_ranges_ii _ rfl _ rfl 2 3 .i64 .i64 law2 Try.underlying2 Try.underlying3 B r n _ _ _ rfl hrg ?_ ?_)
  | go_in)
 ·intro _ hl0
  go_wp2
  exact⟨rfl,⟨rfl,rfl,rfl,rfl,rfl,rfl,rfl,rfl,rfl,trivial⟩,.inl ⟨rfl,rfl⟩⟩
 ·intro x c w1 cnt1 hwx hwc hlx hat hrg1 hlt hg1 hs1 hen
  obtain rfl:=DD.out.is (hat _)
  have hpos:=DD.out.2 x (has_true_of_atKey hat)
  have hb:IntKind.i64.min≤x∧x≤9223372036854775807:=by simpa [Lit.wf]using hwx
  go_wp2
  exact⟨rfl,⟨rfl,rfl,rfl,rfl,rfl,rfl,rfl,rfl,rfl,trivial⟩,.inr ⟨rfl,x,cnt1,hlx,hpos,hb.1,hb.2,hlt,⟨_,hrg1,DD.out⟩,hg1,hen⟩⟩
theorem krt_46e{r:Nat}{x c:Int}(hen:(Instr.entry (.pointer (some ⟨r,0,none⟩))).run Try.prog w= .ok (.tuple #[.int .i64 x,.int .i64 c]) w){x1 x5 x7 x8 x9 x10 x22:Value}{A:Array Value}(hA:Slots 249 A [(1,x1),(5,x5),(7,x7),(8,x8),(9,x9),(10,x10),(22,x22),(202,.pointer (some ⟨r,0,none⟩))]):
 krtr46.wp Try.prog (nrm fun a u=>a.defers=[]∧Slots 249 a.tmps [(1,x1),(5,x5),(7,x7),(8,x8),(9,x9),(10,x10),(22,x22),(25,.int .i64 x),(26,.int .i64 c),(202,.pointer (some ⟨r,0,none⟩))]∧u.heap=w.heap) ⟨A,[]⟩ w:=by
 obtain⟨hsz,k1,k5,k7,k8,k9,k10,k22,k202,_⟩:=hA
 obtain⟨s,rfl⟩:=krtT_of hsz
 change s 1=_ at k1
 change s 5=_ at k5
 change s 7=_ at k7
 change s 8=_ at k8
 change s 9=_ at k9
 change s 10=_ at k10
 change s 22=_ at k22
 change s 202=_ at k202
 clear hsz
 simp only[krtr46,krtBody,pC,Try.f42,Option.getD_some,krtT,k1,k5,k7,k8,k9,k10,k22,k202]
 clear k1 k5 k7 k8 k9 k10 k22 k202
 go_wp2
 exact⟨rfl,⟨rfl,rfl,rfl,rfl,rfl,rfl,rfl,rfl,rfl,rfl,rfl,trivial⟩,rfl⟩
theorem krt_66{x:Int}{c:Nat}(hc:c≤1)(hx: -9223372036854775808≤x∧x≤9223372036854775807){B nB:Nat}{f:Int→Nat}(hM:MapF w B nB f)(hf:0<f x){x1 x5 x7 x8 x9 x22 x202:Value}{A:Array Value}(hA:Slots 249 A [(1,x1),(5,x5),(7,x7),(8,x8),(9,x9),(10,.map (some B)),(22,x22),(25,.int .i64 x),(26,.int .i64 c),(202,x202)]):
 krts66.wp Try.prog (nrm fun a u=>a.defers=[]∧Slots 249 a.tmps [(1,x1),(5,x5),(7,x7),(8,x8),(9,x9),(10,.map (some B)),(22,x22),(202,x202)]∧u.heap=w.heap) ⟨A,[]⟩ w:=by
 have hwf:(Lit.int .i64 x).wf=true:=WalkArith.wf_i64 hx
 obtain⟨D1,hown1,hD1⟩:=hM
 obtain⟨c1,hrun1,hat1,_⟩:=hown1.lookup_int law2 Try.underlying135 Try.underlying3 (zero3 _) (keyOf_int_mk Try.underlying2 hwf)
 obtain rfl:=hD1.is hat1
 clear hD1 hat1 hown1
 have q1:decide ((1:Int)<(c:Int))=false:=by simp;omega
 have q1b:¬(1:Int)<(c:Int):=by omega
 have q1c:¬1<c:=by omega
 have q2:((f x:Int) == 0)=false:=by simp;omega
 clear hf hc
 obtain⟨hsz,k1,k5,k7,k8,k9,k10,k22,k25,k26,k202,_⟩:=hA
 obtain⟨s,rfl⟩:=krtT_of hsz
 change s 1=_ at k1
 change s 5=_ at k5
 change s 7=_ at k7
 change s 8=_ at k8
 change s 9=_ at k9
 change s 10=_ at k10
 change s 22=_ at k22
 change s 25=_ at k25
 change s 26=_ at k26
 change s 202=_ at k202
 clear hsz
 simp only[krts66,krtBody,pC,Try.f42,Option.getD_some,krtT,k1,k5,k7,k8,k9,k10,k22,k25,k26,k202]
 clear k1 k5 k7 k8 k9 k10 k22 k25 k26 k202
 go_wp2
 exact⟨rfl,⟨rfl,rfl,rfl,rfl,rfl,rfl,rfl,rfl,rfl,trivial⟩,rfl⟩
def R49(B n:Nat)(f:Int→Nat)(x1 x5 x7 x9 x10 x22:Value)(w:World)(a:Act)(u:World):Prop:=a.defers=[]∧∃left cnt,Slots 249 a.tmps [(1,x1),(5,x5),(7,x7),(8,.map (some B)),(9,x9),(10,x10),(22,x22),(217,.pointer (some ⟨w.heap.size,0,none⟩))]∧MapR u B w.heap.size n f left cnt∧w.grownBy u none
theorem krt_49{B n:Nat}{f:Int→Nat}(hM:MapF w B n f){x1 x5 x7 x9 x10 x22:Value}{A:Array Value}(hA:Slots 249 A [(1,x1),(5,x5),(7,x7),(8,.map (some B)),(9,x9),(10,x10),(22,x22)]):
 krtr49.wp Try.prog (nrm (R49 B n f x1 x5 x7 x9 x10 x22 w)) ⟨A,[]⟩ w:=by
 obtain⟨D,hown,hD⟩:=hM
 have DD:Aside (MapD D f):=hD
 clear hD
 obtain⟨hsz,k1,k5,k7,k8,k9,k10,k22,_⟩:=hA
 obtain⟨s,rfl⟩:=krtT_of hsz
 change s 1=_ at k1
 change s 5=_ at k5
 change s 7=_ at k7
 change s 8=_ at k8
 change s 9=_ at k9
 change s 10=_ at k10
 change s 22=_ at k22
 clear hsz
 simp only[krtr49,krtBody,pC,Try.f42,Option.getD_some,krtT,k1,k5,k7,k8,k9,k10,k22]
 clear k1 k5 k7 k8 k9 k10 k22
 go_wp2_with (first
  | (at_range;refine wpList_range_own _ rfl _ 135 rfl 2 3 law2 Try.underlying135 _ B n _ rfl hown ?_;intro w0 hrg0 hg0 hs0;go_frame)
  | go_in)
 exact⟨rfl,_,_,⟨rfl,rfl,rfl,rfl,rfl,rfl,rfl,rfl,rfl,trivial⟩,⟨_,hrg0,DD.out⟩,hg0⟩
def R50(B r n:Nat)(f:Int→Nat)(left:Lit→Bool)(cnt:Nat)(x1 x5 x7 x8 x9 x10 x22:Value)(w:World)(a:Act)(u:World):Prop:=a.defers=[]∧Slots 249 a.tmps [(1,x1),(5,x5),(7,x7),(8,x8),(9,x9),(10,x10),(22,x22),(217,.pointer (some ⟨r,0,none⟩))]∧
 ((a.tmps.getD 219 undef= .bool false∧u.heap=w.heap)∨
  (a.tmps.getD 219 undef= .bool true∧∃(x:Int) (cnt':Nat),left (.int .i64 x)=true∧0<f x∧-9223372036854775808≤x∧x≤9223372036854775807∧cnt'<cnt∧MapR u B r n f (fun z=>left z && !z.sameKey (.int .i64 x)) cnt'∧w.grownBy u (some r)∧(Instr.entry (.pointer (some ⟨r,0,none⟩))).run Try.prog u= .ok (.tuple #[.int .i64 x,.int .i64 (f x)]) u))
theorem krt_50{B r n cnt:Nat}{f:Int→Nat}{left:Lit→Bool}(hM:MapR w B r n f left cnt){x1 x5 x7 x8 x9 x10 x22:Value}{A:Array Value}(hA:Slots 249 A [(1,x1),(5,x5),(7,x7),(8,x8),(9,x9),(10,x10),(22,x22),(217,.pointer (some ⟨r,0,none⟩))]):
 krtr50.wp Try.prog (nrm (R50 B r n f left cnt x1 x5 x7 x8 x9 x10 x22 w)) ⟨A,[]⟩ w:=by
 obtain⟨D,hrg,hD⟩:=hM
 have DD:Aside (MapD D f):=hD
 clear hD
 obtain⟨hsz,k1,k5,k7,k8,k9,k10,k22,k217,_⟩:=hA
 obtain⟨s,rfl⟩:=krtT_of hsz
 change s 1=_ at k1
 change s 5=_ at k5
 change s 7=_ at k7
 change s 8=_ at k8
 change s 9=_ at k9
 change s 10=_ at k10
 change s 22=_ at k22
 change s 217=_ at k217
 clear hsz
 simp only[krtr50,krtBody,pC,Try.f42,Option.getD_some,krtT,k1,k5,k7,k8,k9,k10,k22,k217]
 clear k1 k5 k7 k8 k9 k10 k22 k217
 go_wp2_with (first
  | (at_next;refine wpList_next_ranges_ii _ rfl _ rfl 2 3 .i64 .i64 law2 Try.underlying2 Try.underlying3 B r n _ _ _ rfl hrg ?_ ?_)
  | go_in)
 ·intro _ hl0
  go_wp2
  exact⟨rfl,⟨rfl,rfl,rfl,rfl,rfl,rfl,rfl,rfl,rfl,trivial⟩,.inl ⟨rfl,rfl⟩⟩
 ·intro x c w1 cnt1 hwx hwc hlx hat hrg1 hlt hg1 hs1 hen
  obtain rfl:=DD.out.is (hat _)
  have hpos:=DD.out.2 x (has_true_of_atKey hat)
  have hb:IntKind.i64.min≤x∧x≤9223372036854775807:=by simpa [Lit.wf]using hwx
  go_wp2
  exact⟨rfl,⟨rfl,rfl,rfl,rfl,rfl,rfl,rfl,rfl,rfl,trivial⟩,.inr ⟨rfl,x,cnt1,hlx,hpos,hb.1,hb.2,hlt,⟨_,hrg1,DD.out⟩,hg1,hen⟩⟩
theorem krt_51e{r:Nat}{x c:Int}(hen:(Instr.entry (.pointer (some ⟨r,0,none⟩))).run Try.prog w= .ok (.tuple #[.int .i64 x,.int .i64 c]) w){x1 x5 x7 x8 x9 x10 x22:Value}{A:Array Value}(hA:Slots 249 A [(1,x1),(5,x5),(7,x7),(8,x8),(9,x9),(10,x10),(22,x22),(217,.pointer (some ⟨r,0,none⟩))]):
 krtr51.wp Try.prog (nrm fun a u=>a.defers=[]∧Slots 249 a.tmps [(1,x1),(5,x5),(7,x7),(8,x8),(9,x9),(10,x10),(22,x22),(27,.int .i64 x),(217,.pointer (some ⟨r,0,none⟩))]∧u.heap=w.heap) ⟨A,[]⟩ w:=by
 obtain⟨hsz,k1,k5,k7,k8,k9,k10,k22,k217,_⟩:=hA
 obtain⟨s,rfl⟩:=krtT_of hsz
 change s 1=_ at k1
 change s 5=_ at k5
 change s 7=_ at k7
 change s 8=_ at k8
 change s 9=_ at k9
 change s 10=_ at k10
 change s 22=_ at k22
 change s 217=_ at k217
 clear hsz
 simp only[krtr51,krtBody,pC,Try.f42,Option.getD_some,krtT,k1,k5,k7,k8,k9,k10,k22,k217]
 clear k1 k5 k7 k8 k9 k10 k22 k217
 go_wp2
 exact⟨rfl,⟨rfl,rfl,rfl,rfl,rfl,rfl,rfl,rfl,rfl,rfl,trivial⟩,rfl⟩
theorem krt_74y{x:Int}{h:Nat}(hh:h<1000000000)(hx: -9223372036854775808≤x∧x≤9223372036854775807){B nB:Nat}{f:Int→Nat}(hM:MapF w B nB f){C nC:Nat}{g:Int→Nat}(hN:MapF w C nC g)(hf:f x+g x=0){x1 x5 x8 x10 x217:Value}{A:Array Value}(hA:Slots 249 A [(1,x1),(5,x5),(7,.map (some C)),(8,x8),(9,.map (some B)),(10,x10),(22,.int .i64 h),(27,.int .i64 x),(217,x217)]):
 krts74.wp Try.prog (nrm fun a u=>a.defers=[]∧Slots 249 a.tmps [(1,x1),(5,x5),(7,.map (some C)),(8,x8),(9,.map (some B)),(10,x10),(22,.int .i64 (h+1:Nat)),(217,x217)]∧u.heap=w.heap) ⟨A,[]⟩ w:=by
 have hwf:(Lit.int .i64 x).wf=true:=WalkArith.wf_i64 hx
 obtain⟨D1,hown1,hD1⟩:=hM
 obtain⟨c1,hrun1,hat1,_⟩:=hown1.lookup_int law2 Try.underlying135 Try.underlying3 (zero3 _) (keyOf_int_mk Try.underlying2 hwf)
 obtain rfl:=hD1.is hat1
 clear hD1 hat1 hown1
 obtain⟨D2,hown2,hD2⟩:=hN
 obtain⟨c2,hrun2,hat2,_⟩:=hown2.lookup_int law2 Try.underlying135 Try.underlying3 (zero3 _) (keyOf_int_mk Try.underlying2 hwf)
 obtain rfl:=hD2.is hat2
 clear hD2 hat2 hown2
 rw[show f x=0 by omega]at hrun1
 rw[show g x=0 by omega]at hrun2
 have hwr:IntKind.i64.wrap ((h:Int)+1)=((h+1:Nat):Int):=IntWalk.i64_in _ (by omega)
 clear hf
 obtain⟨hsz,k1,k5,k7,k8,k9,k10,k22,k27,k217,_⟩:=hA
 obtain⟨s,rfl⟩:=krtT_of hsz
 change s 1=_ at k1
 change s 5=_ at k5
 change s 7=_ at k7
 change s 8=_ at k8
 change s 9=_ at k9
 change s 10=_ at k10
 change s 22=_ at k22
 change s 27=_ at k27
 change s 217=_ at k217
 clear hsz
 simp only[krts74,krtBody,pC,Try.f42,Option.getD_some,krtT,k1,k5,k7,k8,k9,k10,k22,k27,k217]
 clear k1 k5 k7 k8 k9 k10 k22 k27 k217
 go_wp2
 exact⟨rfl,⟨rfl,rfl,rfl,rfl,rfl,rfl,rfl,rfl,rfl,trivial⟩,rfl⟩
theorem krt_74n{x:Int}{h:Nat}(hh:h<1000000000)(hx: -9223372036854775808≤x∧x≤9223372036854775807){B nB:Nat}{f:Int→Nat}(hM:MapF w B nB f){C nC:Nat}{g:Int→Nat}(hN:MapF w C nC g)(hf:¬f x+g x=0)(hs:f x+g x<1000000000){x1 x5 x8 x10 x217:Value}{A:Array Value}(hA:Slots 249 A [(1,x1),(5,x5),(7,.map (some C)),(8,x8),(9,.map (some B)),(10,x10),(22,.int .i64 h),(27,.int .i64 x),(217,x217)]):
 krts74.wp Try.prog (nrm fun a u=>a.defers=[]∧Slots 249 a.tmps [(1,x1),(5,x5),(7,.map (some C)),(8,x8),(9,.map (some B)),(10,x10),(22,.int .i64 h),(217,x217)]∧u.heap=w.heap) ⟨A,[]⟩ w:=by
 have hwf:(Lit.int .i64 x).wf=true:=WalkArith.wf_i64 hx
 obtain⟨D1,hown1,hD1⟩:=hM
 obtain⟨c1,hrun1,hat1,_⟩:=hown1.lookup_int law2 Try.underlying135 Try.underlying3 (zero3 _) (keyOf_int_mk Try.underlying2 hwf)
 obtain rfl:=hD1.is hat1
 clear hD1 hat1 hown1
 obtain⟨D2,hown2,hD2⟩:=hN
 obtain⟨c2,hrun2,hat2,_⟩:=hown2.lookup_int law2 Try.underlying135 Try.underlying3 (zero3 _) (keyOf_int_mk Try.underlying2 hwf)
 obtain rfl:=hD2.is hat2
 clear hD2 hat2 hown2
 have hwr:IntKind.i64.wrap ((f x:Int)+(g x:Int))=(f x:Int)+(g x:Int):=IntWalk.i64_in _ (by omega)
 have q2:((f x:Int)+(g x:Int) == 0)=false:=by simp;omega
 clear hs
 clear hf
 obtain⟨hsz,k1,k5,k7,k8,k9,k10,k22,k27,k217,_⟩:=hA
 obtain⟨s,rfl⟩:=krtT_of hsz
 change s 1=_ at k1
 change s 5=_ at k5
 change s 7=_ at k7
 change s 8=_ at k8
 change s 9=_ at k9
 change s 10=_ at k10
 change s 22=_ at k22
 change s 27=_ at k27
 change s 217=_ at k217
 clear hsz
 simp only[krts74,krtBody,pC,Try.f42,Option.getD_some,krtT,k1,k5,k7,k8,k9,k10,k22,k27,k217]
 clear k1 k5 k7 k8 k9 k10 k22 k27 k217
 go_wp2
 exact⟨rfl,⟨rfl,rfl,rfl,rfl,rfl,rfl,rfl,rfl,rfl,trivial⟩,rfl⟩
theorem krt_54y{b5 n tc h:Nat}{ta:Option Addr}(h3:w.cell? ⟨b5,3,none⟩=some (.bool true))(hh:h≤n){A:Array Value}(hA:Slots 249 A [(1,.slice ta n tc),(5,.pointer (some ⟨b5,0,none⟩)),(22,.int .i64 h)]):
 krtr54.wp Try.prog (nrm fun a u=>a.defers=[]∧Slots 249 a.tmps [(6,.bool true)]∧u.heap=w.heap) ⟨A,[]⟩ w:=by
 obtain⟨hsz,k1,k5,k22,_⟩:=hA
 obtain⟨s,rfl⟩:=krtT_of hsz
 change s 1=_ at k1
 change s 5=_ at k5
 change s 22=_ at k22
 clear hsz
 simp only[krtr54,krtBody,pC,Try.f42,Option.getD_some,krtT,k1,k5,k22]
 clear k1 k5 k22
 go_wp2
 exact⟨rfl,⟨rfl,rfl,trivial⟩,rfl⟩
theorem krt_54n{b5 n tc h:Nat}{ta:Option Addr}(h3:w.cell? ⟨b5,3,none⟩=some (.bool false))(hh:h=0){A:Array Value}(hA:Slots 249 A [(1,.slice ta n tc),(5,.pointer (some ⟨b5,0,none⟩)),(22,.int .i64 h)]):
 krtr54.wp Try.prog (nrm fun a u=>a.defers=[]∧Slots 249 a.tmps [(6,.bool true)]∧u.heap=w.heap) ⟨A,[]⟩ w:=by
 subst hh
 obtain⟨hsz,k1,k5,k22,_⟩:=hA
 obtain⟨s,rfl⟩:=krtT_of hsz
 change s 1=_ at k1
 change s 5=_ at k5
 change s 22=_ at k22
 clear hsz
 simp only[krtr54,krtBody,pC,Try.f42,Option.getD_some,krtT,k1,k5,k22]
 clear k1 k5 k22
 go_wp2
 exact⟨rfl,⟨rfl,rfl,trivial⟩,rfl⟩
end
section
variable{w w' u u':World}
theorem while_nrm{P:Program}{hd y:Code}{ci id:Nat}{I J:Nat→Act→World→Prop}{E:Act→World→Prop}
 (hhd:∀g a w,I g a w→hd.wp P (nrm fun a' w'=>(a'.tmps.getD ci undef= .bool true∧J g a' w')∨(a'.tmps.getD ci undef= .bool false∧E a' w')) a w)
 (hy:∀g a w,J g a w→y.wp P (nrm fun a' w'=>∃g',g'<g∧I g' a' w') a w) {g:Nat} {a:Act} {w:World} (h:I g a w):
 (Code.block id (.loop (.seq hd (.seq (.cond (.tmp ci) .skip (.exit id)) y)))).wp P (nrm E) a w:=by
 refine wp_block ?_
 refine wp_loop_ghost I g h fun g a w h=>?_
 refine wp_seq (wp_mono (hhd g a w h) fun e a' w' q=>?_)
 cases e with
 | normal=>
   rcases q with⟨hc,hj⟩|⟨hc,he⟩
   ·refine wp_seq (wp_cond (t:=true) hc ?_)
    refine wp_skip ?_
    refine wp_mono (hy g a' w' hj) fun e a w q=>?_
    cases e with
    | normal=>exact q
    | _=>exact q.elim
   ·refine wp_seq (wp_cond (t:=false) hc ?_)
    refine wp_exit ?_
    show Exit.inBlock id (nrm E) (.exit id) a' w'
    simp only[Exit.inBlock,if_true]
    exact he
 | _=>exact q.elim
theorem block_nrm{P:Program}{c:Code}{id:Nat}{R:Act→World→Prop}{a:Act}{w:World}(h:c.wp P (nrm R) a w):(Code.block id c).wp P (nrm R) a w:=
 wp_block (wp_mono h fun e a w q=>by
  cases e with
  | normal=>exact q
  | _=>exact q.elim)
theorem KeptW.refl(w:World):KeptW w w:=⟨Nat.le_refl _,fun _ _=>rfl⟩
theorem KeptW.trans{a b c:World}(h:KeptW a b)(k:KeptW b c):KeptW a c:=⟨Nat.le_trans h.1 k.1,fun r hr=>(k.2 r (Nat.lt_of_lt_of_le hr h.1)).trans (h.2 r hr)⟩
theorem KeptW.heap(e:w'.heap=w.heap):KeptW w w':=⟨by rw[e];exact Nat.le_refl _,fun r _=>by rw[e]⟩
theorem KeptW.alloc(w:World)(o:Obj):KeptW w (w.alloc o):=⟨by simp,fun r hr=>heap_alloc_lt _ _ hr⟩
theorem KeptW.grown(h:w.grownBy w' none):KeptW w w':=⟨h.size,fun r hr=>h.block r hr (by simp)⟩
theorem KeptW.cell(h:KeptW w w'){a:Addr}{v:Value}(hc:w.cell? a=some v):w'.cell? a=some v:=by
 obtain⟨c,e,q,hb⟩:=cell_block hc
 have e1:=h.2 _ (alt hb)
 rw[← hc];unfold World.cell?;simp only[e1]
structure RtIn(w:World)(n:Nat)(ops:Nat→List Op4)(an:Nat→List (Bool×Int))(hs vs:List Int)(live:Bool)(ta ra sa:Option Addr)(tc rc sc b5:Nat)(oa va:Nat→Option Addr)(oc vc:Nat→Nat)(ord:Value):Prop where
 n4:n≤4
 o8:∀j,j<n→(ops j).length≤8∧(ops j).length≤oc j∧((oa j=none∧(ops j).length=0∧oc j=0)∨∃pb po,oa j=some ⟨pb,po,none⟩)
 th:∀j,j<n→∃tb to,ta=some ⟨tb,to,none⟩∧w.cell? ⟨tb,to+j,none⟩=some (.slice (oa j) (ops j).length (oc j))
 op:∀j,j<n→∀(i:Nat) (x:Op4),(ops j)[i]? =some x→∃pb po,oa j=some ⟨pb,po,none⟩∧w.cell? ⟨pb,po+i*4,none⟩=some (.int .i64 x.kd)∧w.cell? ⟨pb,po+i*4+1,none⟩=some (.int .i64 x.a)∧w.cell? ⟨pb,po+i*4+2,none⟩=some (.int .i64 x.b)∧w.cell? ⟨pb,po+i*4+3,none⟩=some (.int .i64 x.c)
 sm:∀j,j<n→∀o,o∈ops j→-1000000000000<o.a∧o.a<1000000000000
 rr:RRow w ra ((List.range n).map fun j=>.slice (va j) (an j).length (vc j))
 ar:∀j,j<n→RRow w (va j) (ansC (an j))
 h4:hs.length=4
 st:RRow w sa ((hs++vs).map fun v=>.int .i64 v)
 scap:4+vs.length≤sc
 tr:w.heap[b5]? =some (.cells #[.slice ra n rc,ord,.slice sa (4+vs.length) sc,.bool live] 31 (0,0))
section
variable{n:Nat}{ops:Nat→List Op4}{an:Nat→List (Bool×Int)}{hs vs:List Int}{live:Bool}{ta ra sa:Option Addr}{tc rc sc b5:Nat}{oa va:Nat→Option Addr}{oc vc:Nat→Nat}{ord:Value}
theorem RtIn.keep(h:RtIn w n ops an hs vs live ta ra sa tc rc sc b5 oa va oc vc ord)(k:KeptW w w'):RtIn w' n ops an hs vs live ta ra sa tc rc sc b5 oa va oc vc ord:=
 ⟨h.n4,h.o8,fun j hj=>by obtain⟨tb,to,e,c⟩:=h.th j hj;exact⟨tb,to,e,k.cell c⟩,fun j hj i x hx=>by obtain⟨pb,po,e,a,b,c,d⟩:=h.op j hj i x hx;exact⟨pb,po,e,k.cell a,k.cell b,k.cell c,k.cell d⟩,h.sm,h.rr.olds k.2,fun j hj=>(h.ar j hj).olds k.2,h.h4,h.st.olds k.2,h.scap,(k.2 _ (Array.getElem?_eq_some_iff.1 h.tr).1).trans h.tr⟩
theorem RtIn.cs(h:RtIn w n ops an hs vs live ta ra sa tc rc sc b5 oa va oc vc ord):w.cell? ⟨b5,0,none⟩=some (.slice ra n rc)∧w.cell? ⟨b5,2,none⟩=some (.slice sa (4+vs.length) sc)∧w.cell? ⟨b5,3,none⟩=some (.bool live):=by
 simp[World.cell?,h.tr]
theorem RtIn.ann(h:RtIn w n ops an hs vs live ta ra sa tc rc sc b5 oa va oc vc ord){j:Nat}(hj:j<n):∃rb ro,ra=some ⟨rb,ro,none⟩∧w.cell? ⟨rb,ro+j,none⟩=some (.slice (va j) (an j).length (vc j)):=
 h.rr.c j _ (by rw[List.getElem?_map,List.getElem?_range hj];rfl)
end
structure M4(w1:World)(b7 b8 b9 b10 m:Nat)(f7 f8 f9 f10:Int→Nat)(u:World):Prop where
 k:KeptW w1 u
 m7:MapF u b7 m f7
 m8:MapF u b8 m f8
 m9:MapF u b9 m f9
 m10:MapF u b10 m f10
 ge:w1.heap.size≤b7∧w1.heap.size≤b8∧w1.heap.size≤b9∧w1.heap.size≤b10
 ne:b7≠b8∧b7≠b9∧b7≠b10∧b8≠b9∧b8≠b10∧b9≠b10
section
variable{w1:World}{b7 b8 b9 b10 m m':Nat}{f7 f8 f9 f10 f:Int→Nat}
theorem M4.keep(h:M4 w1 b7 b8 b9 b10 m f7 f8 f9 f10 u)(k:KeptW u u'):M4 w1 b7 b8 b9 b10 m f7 f8 f9 f10 u':=
 ⟨h.k.trans k,h.m7.keep (k.2 _ h.m7.lt),h.m8.keep (k.2 _ h.m8.lt),h.m9.keep (k.2 _ h.m9.lt),h.m10.keep (k.2 _ h.m10.lt),h.ge,h.ne⟩
theorem grown_kept{b:Nat}(h:KeptW w1 u)(hb:w1.heap.size≤b)(g:u.grownBy u' (some b)):KeptW w1 u':=
 ⟨Nat.le_trans h.1 g.size,fun r hr=>(g.block r (Nat.lt_of_lt_of_le hr h.1) (by simp;omega)).trans (h.2 r hr)⟩
theorem M4.p7(h:M4 w1 b7 b8 b9 b10 m f7 f8 f9 f10 u)(g:u.grownBy u' (some b7))(k:MapF u' b7 (m+1) f):M4 w1 b7 b8 b9 b10 (m+1) f f8 f9 f10 u':=by
 obtain⟨e1,e2,e3,e4,e5,e6⟩:=h.ne
 exact⟨grown_kept h.k h.ge.1 g,k,(h.m8.kept g (by simp;omega)).mono (by omega),(h.m9.kept g (by simp;omega)).mono (by omega),(h.m10.kept g (by simp;omega)).mono (by omega),h.ge,h.ne⟩
theorem M4.p8(h:M4 w1 b7 b8 b9 b10 m f7 f8 f9 f10 u)(g:u.grownBy u' (some b8))(k:MapF u' b8 (m+1) f):M4 w1 b7 b8 b9 b10 (m+1) f7 f f9 f10 u':=by
 obtain⟨e1,e2,e3,e4,e5,e6⟩:=h.ne
 exact⟨grown_kept h.k h.ge.2.1 g,(h.m7.kept g (by simp;omega)).mono (by omega),k,(h.m9.kept g (by simp;omega)).mono (by omega),(h.m10.kept g (by simp;omega)).mono (by omega),h.ge,h.ne⟩
theorem M4.p9(h:M4 w1 b7 b8 b9 b10 m f7 f8 f9 f10 u)(g:u.grownBy u' (some b9))(k:MapF u' b9 (m+1) f):M4 w1 b7 b8 b9 b10 (m+1) f7 f8 f f10 u':=by
 obtain⟨e1,e2,e3,e4,e5,e6⟩:=h.ne
 exact⟨grown_kept h.k h.ge.2.2.1 g,(h.m7.kept g (by simp;omega)).mono (by omega),(h.m8.kept g (by simp;omega)).mono (by omega),k,(h.m10.kept g (by simp;omega)).mono (by omega),h.ge,h.ne⟩
theorem M4.p10(h:M4 w1 b7 b8 b9 b10 m f7 f8 f9 f10 u)(g:u.grownBy u' (some b10))(k:MapF u' b10 (m+1) f):M4 w1 b7 b8 b9 b10 (m+1) f7 f8 f9 f u':=by
 obtain⟨e1,e2,e3,e4,e5,e6⟩:=h.ne
 exact⟨grown_kept h.k h.ge.2.2.2 g,(h.m7.kept g (by simp;omega)).mono (by omega),(h.m8.kept g (by simp;omega)).mono (by omega),(h.m9.kept g (by simp;omega)).mono (by omega),k,h.ge,h.ne⟩
theorem M4.mono(h:M4 w1 b7 b8 b9 b10 m f7 f8 f9 f10 u)(hm:m≤m'):M4 w1 b7 b8 b9 b10 m' f7 f8 f9 f10 u:=
 ⟨h.k,h.m7.mono hm,h.m8.mono hm,h.m9.mono hm,h.m10.mono hm,h.ge,h.ne⟩
end
theorem pvl_snoc:∀(l:List Op4) (o:Op4),pvl (l++[o])=pvl l++if o.kd=1 then[o.a]else[]
 | [],o=>by simp only[List.nil_append,pvl]
 | p::l,o=>by
   simp only[List.cons_append,pvl,pvl_snoc l o]
   split<;>simp
theorem inc_eq(f:Int→Nat)(a:Int):inc f a=fun v=>f v+[a].count v:=by
 funext v
 unfold inc
 by_cases e:v=a
 ·subst e;simp
 ·rw[if_neg e,List.count_eq_zero_of_not_mem (by simpa using e)];rfl
def bgP(ops:Nat→List Op4)(j i:Nat)(v:Int):Nat:=sm j (fun k=>(pvl (ops k)).count v)+(pvl ((ops j).take i)).count v
theorem bgP_step{ops:Nat→List Op4}{j i:Nat}{o:Op4}(h:(ops j)[i]? =some o):bgP ops j (i+1)=if o.kd=1 then inc (bgP ops j i) o.a else bgP ops j i:=by
 have e:pvl ((ops j).take (i+1))=pvl ((ops j).take i)++if o.kd=1 then[o.a]else[]:=by
  rw[List.take_add_one,h];exact pvl_snoc _ _
 by_cases hk:o.kd=1
 ·rw[if_pos hk,inc_eq]
  funext v
  unfold bgP
  rw[e,if_pos hk,List.count_append]
  omega
 ·rw[if_neg hk]
  funext v
  unfold bgP
  rw[e,if_neg hk,List.append_nil]
theorem bgP_row{ops:Nat→List Op4}{j:Nat}:bgP ops j (ops j).length=bgP ops (j+1) 0:=by
 funext v
 unfold bgP
 rw[List.take_length,List.take_zero]
 show _=sm j _+_+0
 rfl
theorem bgP_zero{ops:Nat→List Op4}:bgP ops 0 0=fun _=>0:=by
 funext v;unfold bgP;rw[List.take_zero];rfl
theorem bgP_end{ops:Nat→List Op4}{n:Nat}:bgP ops n 0=bgv n ops:=by
 funext v;unfold bgP;rw[List.take_zero];rfl
theorem bgP_le{ops:Nat→List Op4}{n j i:Nat}(hj:j<n)(v:Int):bgP ops j i v≤bgv n ops v:=by
 unfold bgP bgv
 have h1:(pvl ((ops j).take i)).count v≤(pvl (ops j)).count v:=by
  have:pvl (ops j)=pvl ((ops j).take i)++pvl ((ops j).drop i):=by
   have:∀a b:List Op4,pvl (a++b)=pvl a++pvl b:=fun a b=>by
    induction a with
    | nil=>rfl
    | cons x a ih=>simp only[List.cons_append,pvl,ih];split<;>simp
   rw[← this,List.take_append_drop]
  rw[this,List.count_append]
  omega
 have h2:sm (j+1) (fun k=>(pvl (ops k)).count v)≤sm n fun k=>(pvl (ops k)).count v:=by
  clear h1
  induction n with
  | zero=>omega
  | succ n ih=>
    by_cases e:j=n
    ·subst e;exact Nat.le_refl _
    ·have:=ih (by omega)
     simp only[sm]at this ⊢
     omega
 simp only[sm]at h2
 omega
def pdP(ops:Nat→List Op4)(an:Nat→List (Bool×Int))(j i:Nat)(v:Int):Nat:=sm j (fun k=>(psh (ops k) (an k)).count v)+(psh (ops j) ((an j).take i)).count v
def ppP(ops:Nat→List Op4)(an:Nat→List (Bool×Int))(j i:Nat)(v:Int):Nat:=sm j (fun k=>(gps (ops k) (an k)).count v)+(gps (ops j) ((an j).take i)).count v
section
variable{ops:Nat→List Op4}{an:Nat→List (Bool×Int)}{n j i:Nat}{o:Op4}{a:Bool×Int}
theorem pdP_step(h:(ops j)[i]? =some o)(ha:(an j)[i]? =some a):pdP ops an j (i+1)=if o.kd=1∧a.1=true then inc (pdP ops an j i) o.a else pdP ops an j i:=by
 have hl:=(List.getElem?_eq_some_iff.1 ha).1
 have e:psh (ops j) ((an j).take (i+1))=psh (ops j) ((an j).take i)++if o.kd=1∧a.1=true then[o.a]else[]:=by
  rw[List.take_add_one,ha]
  exact psh_snoc _ _ _ _ (by rw[List.length_take,Nat.min_eq_left (by omega)];exact h)
 by_cases hk:o.kd=1∧a.1=true
 ·rw[if_pos hk,inc_eq]
  funext v
  unfold pdP
  rw[e,if_pos hk,List.count_append]
  omega
 ·rw[if_neg hk]
  funext v
  unfold pdP
  rw[e,if_neg hk,List.append_nil]
theorem ppP_step(h:(ops j)[i]? =some o)(ha:(an j)[i]? =some a):ppP ops an j (i+1)=if o.kd=2∧a.1=true then inc (ppP ops an j i) a.2 else ppP ops an j i:=by
 have hl:=(List.getElem?_eq_some_iff.1 ha).1
 have e:gps (ops j) ((an j).take (i+1))=gps (ops j) ((an j).take i)++if o.kd=2∧a.1=true then[a.2]else[]:=by
  rw[List.take_add_one,ha]
  exact gps_snoc _ _ _ _ (by rw[List.length_take,Nat.min_eq_left (by omega)];exact h)
 by_cases hk:o.kd=2∧a.1=true
 ·rw[if_pos hk,inc_eq]
  funext v
  unfold ppP
  rw[e,if_pos hk,List.count_append]
  omega
 ·rw[if_neg hk]
  funext v
  unfold ppP
  rw[e,if_neg hk,List.append_nil]
theorem pdP_row:pdP ops an j (an j).length=pdP ops an (j+1) 0:=by
 funext v
 unfold pdP
 rw[List.take_length,List.take_zero,psh_nil]
 rfl
theorem ppP_row:ppP ops an j (an j).length=ppP ops an (j+1) 0:=by
 funext v
 unfold ppP
 rw[List.take_length,List.take_zero,gps_nil]
 rfl
theorem pdP_zero:pdP ops an 0 0=fun _=>0:=by funext v;unfold pdP;rw[List.take_zero,psh_nil];rfl
theorem ppP_zero:ppP ops an 0 0=fun _=>0:=by funext v;unfold ppP;rw[List.take_zero,gps_nil];rfl
theorem pdP_end:pdP ops an n 0=pdv n ops an:=by funext v;unfold pdP;rw[List.take_zero,psh_nil];rfl
theorem ppP_end:ppP ops an n 0=ppv n ops an:=by funext v;unfold ppP;rw[List.take_zero,gps_nil];rfl
end
theorem pvl_mem{v:Int}:∀{l:List Op4},0<(pvl l).count v→∃o,o∈l∧o.kd=1∧o.a=v
 | [],h=>by simp[pvl]at h
 | o::l,h=>by
   unfold pvl at h
   split at h
   ·rename_i hk
    rw[List.count_cons]at h
    by_cases e:o.a=v
    ·exact⟨o,by simp,hk,e⟩
    ·rw[if_neg (by simpa using e)]at h
     obtain⟨p,h1,h2⟩:=pvl_mem (l:=l) (by omega)
     exact⟨p,by simp[h1],h2⟩
   ·obtain⟨p,h1,h2⟩:=pvl_mem (l:=l) h
    exact⟨p,by simp[h1],h2⟩
theorem bgv_mem{ops:Nat→List Op4}{v:Int}:∀{n:Nat},0<bgv n ops v→∃j,j<n∧∃o,o∈ops j∧o.kd=1∧o.a=v
 | 0,h=>by simp[bgv,sm]at h
 | n+1,h=>by
   by_cases e:0<bgv n ops v
   ·obtain⟨j,hj,h2⟩:=bgv_mem e
    exact⟨j,by omega,h2⟩
   ·have:0<(pvl (ops n)).count v:=by
     simp only[bgv,sm]at h e
     omega
    exact⟨n,by omega,pvl_mem this⟩
end
section
open Go.Maps
variable{w w':World}
theorem then2{P:Program}{x y:Code}{R S:Act→World→Prop}{a:Act}{w:World}(h:x.wp P (nrm R) a w)(hy:∀A u,R ⟨A,[]⟩ u→y.wp P (nrm S) ⟨A,[]⟩ u)(hR:∀a u,R a u→a.defers=[]:=by intro a u h;exact h.1):(Code.seq x y).wp P (nrm S) a w:=
 wp_then h fun a u q=>by
  obtain⟨A,d⟩:=a
  have e:=hR _ _ q
  simp only at e
  subst e
  exact hy A u q
theorem act_nil{a:Act}(h:a.defers=[]):a=⟨a.tmps,[]⟩:=by
 obtain⟨A,d⟩:=a
 simp only at h
 rw[h]
section
variable{n:Nat}{ops:Nat→List Op4}{an:Nat→List (Bool×Int)}{hs vs:List Int}{live:Bool}{ta ra sa:Option Addr}{tc rc sc b5:Nat}{oa va:Nat→Option Addr}{oc vc:Nat→Nat}{ord:Value}
 {w1:World} {b7 b8 b9 b10:Nat}
theorem right_a2(R:RtIn w1 n ops an hs vs live ta ra sa tc rc sc b5 oa va oc vc ord)(hone:∀v,bgv n ops v≤1){j m:Nat}(hj:j<n)(hm:m≤8*j){u:World}(hM:M4 w1 b7 b8 b9 b10 m (fun _=>0) (fun _=>0) (fun _=>0) (bgP ops j 0) u){A:Array Value}(hA:Slots 249 A [(1,.slice ta n tc),(5,.pointer (some ⟨b5,0,none⟩)),(7,.map (some b7)),(8,.map (some b8)),(9,.map (some b9)),(10,.map (some b10)),(52,.slice ta n tc),(53,.int .i64 n),(54,.int .i64 j),(58,.slice (oa j) (ops j).length (oc j)),(59,.int .i64 (ops j).length),(60,.int .i64 (0:Nat))]):
 krtb2.wp Try.prog (nrm fun a u=>a.defers=[]∧Slots 249 a.tmps [(1,.slice ta n tc),(5,.pointer (some ⟨b5,0,none⟩)),(7,.map (some b7)),(8,.map (some b8)),(9,.map (some b9)),(10,.map (some b10)),(52,.slice ta n tc),(53,.int .i64 n),(54,.int .i64 j)]∧∃m',m'≤8*(j+1)∧M4 w1 b7 b8 b9 b10 m' (fun _=>0) (fun _=>0) (fun _=>0) (bgP ops (j+1) 0) u) ⟨A,[]⟩ u:=by
 obtain⟨o8,o9,o10⟩:=R.o8 j hj
 rw[krtb2',krtl15',krts16',krts17',krtc61']
 refine while_nrm (I:=fun g a u=>a.defers=[]∧∃i m',i≤(ops j).length∧g=(ops j).length - i∧m'≤8*j+i∧Slots 249 a.tmps [(1,.slice ta n tc),(5,.pointer (some ⟨b5,0,none⟩)),(7,.map (some b7)),(8,.map (some b8)),(9,.map (some b9)),(10,.map (some b10)),(52,.slice ta n tc),(53,.int .i64 n),(54,.int .i64 j),(58,.slice (oa j) (ops j).length (oc j)),(59,.int .i64 (ops j).length),(60,.int .i64 i)]∧M4 w1 b7 b8 b9 b10 m' (fun _=>0) (fun _=>0) (fun _=>0) (bgP ops j i) u)
  (J:=fun g a u=>a.defers=[]∧∃i m',i<(ops j).length∧g=(ops j).length - i∧m'≤8*j+i∧Slots 249 a.tmps [(1,.slice ta n tc),(5,.pointer (some ⟨b5,0,none⟩)),(7,.map (some b7)),(8,.map (some b8)),(9,.map (some b9)),(10,.map (some b10)),(52,.slice ta n tc),(53,.int .i64 n),(54,.int .i64 j),(58,.slice (oa j) (ops j).length (oc j)),(59,.int .i64 (ops j).length),(60,.int .i64 i)]∧M4 w1 b7 b8 b9 b10 m' (fun _=>0) (fun _=>0) (fun _=>0) (bgP ops j i) u)
  (fun g a u ⟨hd,i,m',h1,h2,h3,hS,hM⟩=>?_) (fun g a u ⟨hd0,i,m',h1,h2,h3,hS,hM⟩=>?_) (g:=(ops j).length) ⟨rfl,0,m,Nat.zero_le _,by omega,by omega,hA,hM⟩
 ·rw[act_nil hd]
  refine piece_mono (krt_10 hS) fun a u' ⟨hd,⟨s0,s1,s5,s7,s8,s9,s10,s52,s53,s54,s58,s59,s60,s61,_⟩,hu⟩=>?_
  have hM:=hM.keep (KeptW.heap hu)
  by_cases hi:i<(ops j).length
  ·exact .inl ⟨by rw[s61,decide_eq_true hi],hd,i,m',hi,h2,h3,⟨s0,s1,s5,s7,s8,s9,s10,s52,s53,s54,s58,s59,s60,trivial⟩,hM⟩
  ·obtain rfl:i=(ops j).length:=by omega
   rw[bgP_row]at hM
   exact .inr ⟨by rw[s61,decide_eq_false hi],hd,⟨s0,s1,s5,s7,s8,s9,s10,s52,s53,s54,trivial⟩,m',by omega,hM⟩
 ·obtain⟨o,ho⟩:∃o,(ops j)[i]? =some o:=⟨_,List.getElem?_eq_getElem h1⟩
  obtain⟨pb,po,eo,f0,f1,f2,f3⟩:=(R.keep hM.k).op j hj i o ho
  have ha:=R.sm j hj o (List.mem_of_getElem? ho)
  have e1:=bgP_step ho
  have hle:=bgP_le (ops:=ops) (i:=i) hj o.a
  have hle2:=hone o.a
  have n4:=R.n4
  rw[eo]at hS
  rw[act_nil hd0,krts18']
  have key:∀A u',Slots 249 A [(1,.slice ta n tc),(5,.pointer (some ⟨b5,0,none⟩)),(7,.map (some b7)),(8,.map (some b8)),(9,.map (some b9)),(10,.map (some b10)),(52,.slice ta n tc),(53,.int .i64 n),(54,.int .i64 j),(58,.slice (some ⟨pb,po,none⟩) (ops j).length (oc j)),(59,.int .i64 (ops j).length),(60,.int .i64 i)]→∀m'',m''≤m'+1→M4 w1 b7 b8 b9 b10 m'' (fun _=>0) (fun _=>0) (fun _=>0) (bgP ops j (i+1)) u'→
   krtr14.wp Try.prog (nrm fun a' w'=>∃g',g'<g∧(a'.defers=[]∧∃i m',i≤(ops j).length∧g'=(ops j).length - i∧m'≤8*j+i∧Slots 249 a'.tmps [(1,.slice ta n tc),(5,.pointer (some ⟨b5,0,none⟩)),(7,.map (some b7)),(8,.map (some b8)),(9,.map (some b9)),(10,.map (some b10)),(52,.slice ta n tc),(53,.int .i64 n),(54,.int .i64 j),(58,.slice (oa j) (ops j).length (oc j)),(59,.int .i64 (ops j).length),(60,.int .i64 i)]∧M4 w1 b7 b8 b9 b10 m' (fun _=>0) (fun _=>0) (fun _=>0) (bgP ops j i) w')) ⟨A,[]⟩ u':=fun A u' hS m'' hm'' hM=>by
   refine piece_mono (krt_14 (by omega) hS) fun a u2 ⟨hd,hS2,hu⟩=>⟨(ops j).length - (i+1),by omega,hd,i+1,m'',h1,rfl,by omega,by rw[eo];exact hS2,hM.keep (KeptW.heap hu)⟩
  by_cases hk:o.kd=1
  ·rw[if_pos hk]at e1
   have hb:=block_nrm (id:=3) (krt_b1 h1 f0 f1 f2 f3 hk hM.m10 (by omega) ha (by omega) hS)
   rw[← krtb3']at hb
   refine then2 hb fun A u' ⟨_,hS,⟨w0,g1,g2⟩,hF⟩=>key A u' hS _ (Nat.le_refl _) ?_
   rw[e1]
   exact(hM.keep (KeptW.grown g1)).p10 g2 hF
  ·rw[if_neg hk]at e1
   have hb:=block_nrm (id:=3) (krt_b0 h1 f0 f1 f2 f3 (by simpa using hk) hS)
   rw[← krtb3']at hb
   refine then2 hb fun A u' ⟨_,hS,g1⟩=>key A u' hS m' (by omega) ?_
   rw[e1]
   exact hM.keep (KeptW.grown g1)
theorem right_a(R:RtIn w1 n ops an hs vs live ta ra sa tc rc sc b5 oa va oc vc ord)(hone:∀v,bgv n ops v≤1){u:World}(hM:M4 w1 b7 b8 b9 b10 0 (fun _=>0) (fun _=>0) (fun _=>0) (fun _=>0) u){A:Array Value}(hA:Slots 249 A [(1,.slice ta n tc),(5,.pointer (some ⟨b5,0,none⟩)),(7,.map (some b7)),(8,.map (some b8)),(9,.map (some b9)),(10,.map (some b10))]):
 krts8.wp Try.prog (nrm fun a u=>a.defers=[]∧Slots 249 a.tmps [(1,.slice ta n tc),(5,.pointer (some ⟨b5,0,none⟩)),(7,.map (some b7)),(8,.map (some b8)),(9,.map (some b9)),(10,.map (some b10))]∧∃m',m'≤32∧M4 w1 b7 b8 b9 b10 m' (fun _=>0) (fun _=>0) (fun _=>0) (bgv n ops) u) ⟨A,[]⟩ u:=by
 have n4:=R.n4
 rw[krts8']
 refine then2 (krt_6 hA) fun A u' ⟨_,hS,hu⟩=>?_
 have hM:=hM.keep (KeptW.heap hu)
 rw[krtb0',krtl9',krts10',krts11',krtc55']
 refine while_nrm (I:=fun g a u=>a.defers=[]∧∃j m',j≤n∧g=n - j∧m'≤8*j∧Slots 249 a.tmps [(1,.slice ta n tc),(5,.pointer (some ⟨b5,0,none⟩)),(7,.map (some b7)),(8,.map (some b8)),(9,.map (some b9)),(10,.map (some b10)),(52,.slice ta n tc),(53,.int .i64 n),(54,.int .i64 j)]∧M4 w1 b7 b8 b9 b10 m' (fun _=>0) (fun _=>0) (fun _=>0) (bgP ops j 0) u)
  (J:=fun g a u=>a.defers=[]∧∃j m',j<n∧g=n - j∧m'≤8*j∧Slots 249 a.tmps [(1,.slice ta n tc),(5,.pointer (some ⟨b5,0,none⟩)),(7,.map (some b7)),(8,.map (some b8)),(9,.map (some b9)),(10,.map (some b10)),(52,.slice ta n tc),(53,.int .i64 n),(54,.int .i64 j)]∧M4 w1 b7 b8 b9 b10 m' (fun _=>0) (fun _=>0) (fun _=>0) (bgP ops j 0) u)
  (fun g a u ⟨hd,j,m',h1,h2,h3,hS,hM⟩=>?_) (fun g a u ⟨hd0,j,m',h1,h2,h3,hS,hM⟩=>?_) (g:=n) ⟨rfl,0,0,Nat.zero_le _,rfl,Nat.le_refl _,hS,by rw[bgP_zero];exact hM⟩
 ·rw[act_nil hd]
  refine piece_mono (krt_7 hS) fun a u' ⟨hd,⟨s0,s1,s5,s7,s8,s9,s10,s52,s53,s54,s55,_⟩,hu⟩=>?_
  have hM:=hM.keep (KeptW.heap hu)
  by_cases hi:j<n
  ·exact .inl ⟨by rw[s55,decide_eq_true hi],hd,j,m',hi,h2,h3,⟨s0,s1,s5,s7,s8,s9,s10,s52,s53,s54,trivial⟩,hM⟩
  ·obtain rfl:j=n:=by omega
   rw[bgP_end]at hM
   exact .inr ⟨by rw[s55,decide_eq_false hi],hd,⟨s0,s1,s5,s7,s8,s9,s10,trivial⟩,m',by omega,hM⟩
 ·obtain⟨tb,to,e,c⟩:=(R.keep hM.k).th j h1
  rw[act_nil hd0,krts12']
  refine then2 (R:=fun a u=>a.defers=[]∧Slots 249 a.tmps [(1,.slice ta n tc),(5,.pointer (some ⟨b5,0,none⟩)),(7,.map (some b7)),(8,.map (some b8)),(9,.map (some b9)),(10,.map (some b10)),(52,.slice ta n tc),(53,.int .i64 n),(54,.int .i64 j)]∧∃m',m'≤8*(j+1)∧M4 w1 b7 b8 b9 b10 m' (fun _=>0) (fun _=>0) (fun _=>0) (bgP ops (j+1) 0) u) ?_ fun A u' ⟨_,hS,m'',hm'',hM⟩=>?_
  ·rw[krtb1',krts13']
   refine block_nrm ?_
   have hS':=hS
   rw[e]at hS
   refine then2 (krt_8 h1 c hS) fun A u2 ⟨_,hS2,hu2⟩=>?_
   rw[← e]at hS2
   rw[krts14']
   refine then2 (krt_9 hS2) fun A u3 ⟨_,hS3,hu3⟩=>?_
   exact right_a2 R hone h1 h3 ((hM.keep (KeptW.heap hu2)).keep (KeptW.heap hu3)) hS3
  ·refine piece_mono (krt_15 (by omega) hS) fun a u2 ⟨hd,hS2,hu⟩=>⟨n - (j+1),by omega,hd,j+1,m'',h1,rfl,hm'',hS2,hM.keep (KeptW.heap hu)⟩
end
end
section
open Go.Maps
variable{w w':World}
theorem psh_len:∀(l:List Op4) (m:List (Bool×Int)),(psh l m).length≤l.length
 | [],m=>by simp[psh]
 | o::l,[]=>by simp[psh]
 | o::l,a::m=>by
   have:=psh_len l m
   simp only[psh]
   split<;>simp<;>omega
theorem gps_len:∀(l:List Op4) (m:List (Bool×Int)),(gps l m).length≤l.length
 | [],m=>by simp[gps]
 | o::l,[]=>by simp[gps]
 | o::l,a::m=>by
   have:=gps_len l m
   simp only[gps]
   split<;>simp<;>omega
theorem sm_eight{j:Nat}{f:Nat→Nat}(h:∀k,k<j→f k≤8):sm j f≤8*j:=by
 induction j with
 | zero=>exact Nat.le_refl _
 | succ j ih=>have:=ih fun k hk=>h k (by omega);have:=h j (by omega);simp only[sm];omega
theorem pdP_lt{ops:Nat→List Op4}{an:Nat→List (Bool×Int)}{n j i:Nat}(hj:j<n)(h8:∀k,k<n→(ops k).length≤8)(v:Int):pdP ops an j i v≤8*j+8:=by
 have h1:=sm_eight (j:=j) (f:=fun k=>(psh (ops k) (an k)).count v) fun k hk=>Nat.le_trans List.count_le_length (Nat.le_trans (psh_len _ _) (h8 k (by omega)))
 have h2:(psh (ops j) ((an j).take i)).count v≤8:=Nat.le_trans List.count_le_length (Nat.le_trans (psh_len _ _) (h8 j hj))
 unfold pdP
 omega
theorem ppP_lt{ops:Nat→List Op4}{an:Nat→List (Bool×Int)}{n j i:Nat}(hj:j<n)(h8:∀k,k<n→(ops k).length≤8)(v:Int):ppP ops an j i v≤8*j+8:=by
 have h1:=sm_eight (j:=j) (f:=fun k=>(gps (ops k) (an k)).count v) fun k hk=>Nat.le_trans List.count_le_length (Nat.le_trans (gps_len _ _) (h8 k (by omega)))
 have h2:(gps (ops j) ((an j).take i)).count v≤8:=Nat.le_trans List.count_le_length (Nat.le_trans (gps_len _ _) (h8 j hj))
 unfold ppP
 omega
def BL(q18 q19:Nat)(o:Op4)(ok:Bool)(z:Int)(u:World):Prop:=u.heap[q18]? =some (.cells #[.int .i64 o.kd,.int .i64 o.a,.int .i64 o.b,.int .i64 o.c] 47 (0,0))∧u.heap[q19]? =some (.cells #[.bool ok,.int .i64 z,.slice none 0 0] 44 (0,0))
theorem BL.cs{q18 q19:Nat}{o:Op4}{ok:Bool}{z:Int}{u:World}(h:BL q18 q19 o ok z u):u.cell? ⟨q18,0,none⟩=some (.int .i64 o.kd)∧u.cell? ⟨q18,1,none⟩=some (.int .i64 o.a)∧u.cell? ⟨q19,0,none⟩=some (.bool ok)∧u.cell? ⟨q19,1,none⟩=some (.int .i64 z):=by
 obtain⟨h1,h2⟩:=h
 simp[World.cell?,h1,h2]
theorem BL.grown{q18 q19 b:Nat}{o:Op4}{ok:Bool}{z:Int}{u u':World}(h:BL q18 q19 o ok z u)(g:u.grownBy u' (some b))(h1:q18≠b)(h2:q19≠b):BL q18 q19 o ok z u':=
 ⟨(g.block _ (Array.getElem?_eq_some_iff.1 h.1).1 (by simp;omega)).trans h.1,(g.block _ (Array.getElem?_eq_some_iff.1 h.2).1 (by simp;omega)).trans h.2⟩
theorem BL.heap{q18 q19:Nat}{o:Op4}{ok:Bool}{z:Int}{u u':World}(h:BL q18 q19 o ok z u)(e:u'.heap=u.heap):BL q18 q19 o ok z u':=⟨by rw[e];exact h.1,by rw[e];exact h.2⟩
section
variable{n:Nat}{ops:Nat→List Op4}{an:Nat→List (Bool×Int)}{hs vs:List Int}{live:Bool}{ta ra sa:Option Addr}{tc rc sc b5:Nat}{oa va:Nat→Option Addr}{oc vc:Nat→Nat}{ord:Value}
 {w1:World} {b7 b8 b9 b10:Nat}
theorem right_b3(R:RtIn w1 n ops an hs vs live ta ra sa tc rc sc b5 oa va oc vc ord)(hans:∀j,j<n→∀(i:Nat) (o:Op4) (a:Bool×Int),(ops j)[i]? =some o→(an j)[i]? =some a→o.kd=2∨o.kd=3→(a.1=true→0<bgv n ops a.2)∧(a.1=false→a.2=0)){j i m q18 q19:Nat}(hj:j<n)(hm:m≤32+16*j+2*i)(hm2:m<100000){o:Op4}{ok:Bool}{z:Int}(ho:(ops j)[i]? =some o)(ha:(an j)[i]? =some (ok,z))(hkd:1≤o.kd∧o.kd≤4)(hq:(q18≠b8∧q18≠b9)∧(q19≠b8∧q19≠b9)){u:World}(hB:BL q18 q19 o ok z u)(hM:M4 w1 b7 b8 b9 b10 m (fun _=>0) (pdP ops an j i) (ppP ops an j i) (bgv n ops) u){A:Array Value}(hA:Slots 249 A [(1,.slice ta n tc),(5,.pointer (some ⟨b5,0,none⟩)),(7,.map (some b7)),(8,.map (some b8)),(9,.map (some b9)),(10,.map (some b10)),(15,.int .i64 j),(18,.pointer (some ⟨q18,0,none⟩)),(19,.pointer (some ⟨q19,0,none⟩)),(74,.slice ta n tc),(75,.int .i64 n),(76,.int .i64 j),(97,.slice (oa j) (an j).length (oc j)),(98,.int .i64 (an j).length),(99,.int .i64 i)]):
 krts38.wp Try.prog (nrm fun a u=>a.defers=[]∧Slots 249 a.tmps [(1,.slice ta n tc),(5,.pointer (some ⟨b5,0,none⟩)),(7,.map (some b7)),(8,.map (some b8)),(9,.map (some b9)),(10,.map (some b10)),(15,.int .i64 j),(74,.slice ta n tc),(75,.int .i64 n),(76,.int .i64 j),(97,.slice (oa j) (an j).length (oc j)),(98,.int .i64 (an j).length),(99,.int .i64 i)]∧∃m',m'≤m+2∧M4 w1 b7 b8 b9 b10 m' (fun _=>0) (pdP ops an j (i+1)) (ppP ops an j (i+1)) (bgv n ops) u) ⟨A,[]⟩ u:=by
 have n4:=R.n4
 have h8:∀k,k<n→(ops k).length≤8:=fun k hk=>(R.o8 k hk).1
 obtain⟨⟨q1,q2⟩,q3,q4⟩:=hq
 have sa:=R.sm j hj o (List.mem_of_getElem? ho)
 have l8:=pdP_lt (an:=an) (i:=i) hj h8 o.a
 have l9:=ppP_lt (an:=an) (i:=i) hj h8 z
 have e8:=pdP_step ho ha
 have e9:=ppP_step ho ha
 have hh:=hans j hj i o _ ho ha
 have sz:ok=true→o.kd=2∨o.kd=3→0<bgv n ops z∧-1000000000000<z∧z<1000000000000:=fun h1 h2=>by
  have h3:0<bgv n ops z:=(hh h2).1 h1
  obtain⟨k,hk,p,p1,p2,p3⟩:=bgv_mem h3
  have:=R.sm k hk p p1
  rw[p3]at this
  exact⟨h3,this⟩
 rw[krts38']
 refine then2 (R:=fun a u=>a.defers=[]∧Slots 249 a.tmps [(1,.slice ta n tc),(5,.pointer (some ⟨b5,0,none⟩)),(7,.map (some b7)),(8,.map (some b8)),(9,.map (some b9)),(10,.map (some b10)),(15,.int .i64 j),(18,.pointer (some ⟨q18,0,none⟩)),(19,.pointer (some ⟨q19,0,none⟩)),(74,.slice ta n tc),(75,.int .i64 n),(76,.int .i64 j),(97,.slice (oa j) (an j).length (oc j)),(98,.int .i64 (an j).length),(99,.int .i64 i)]∧∃m',m'≤m+1∧BL q18 q19 o ok z u∧M4 w1 b7 b8 b9 b10 m' (fun _=>0) (pdP ops an j (i+1)) (ppP ops an j i) (bgv n ops) u) ?_ fun A u2 ⟨_,hS2,m2,hm2',hB2,hM2⟩=>?_
 ·obtain⟨c0,c1,c2,c3⟩:=hB.cs
  by_cases hk:o.kd=1
  ·by_cases hok:ok=true
   ·rw[if_pos ⟨hk,hok⟩]at e8
    refine piece_mono (krt_39y c0 c1 c2 c3 hk hok hM.m8 (by omega) sa (by omega) hA) fun a u' ⟨hd,hS,g,hF⟩=>⟨hd,hS,m+1,Nat.le_refl _,hB.grown g q1 q3,?_⟩
    rw[e8]
    exact hM.p8 g hF
   ·rw[if_neg (fun h=>hok h.2)]at e8
    refine piece_mono (krt_39b c0 c1 c2 c3 hk (by simpa using hok) hA) fun a u' ⟨hd,hS,e⟩=>⟨hd,hS,m,by omega,hB.heap e,?_⟩
    rw[e8]
    exact hM.keep (KeptW.heap e)
  ·rw[if_neg (fun h=>hk h.1)]at e8
   refine piece_mono (krt_39a c0 c1 c2 c3 (by simpa using hk) hA) fun a u' ⟨hd,hS,e⟩=>⟨hd,hS,m,by omega,hB.heap e,?_⟩
   rw[e8]
   exact hM.keep (KeptW.heap e)
 rw[krts40']
 refine then2 (R:=fun a u=>a.defers=[]∧Slots 249 a.tmps [(1,.slice ta n tc),(5,.pointer (some ⟨b5,0,none⟩)),(7,.map (some b7)),(8,.map (some b8)),(9,.map (some b9)),(10,.map (some b10)),(15,.int .i64 j),(18,.pointer (some ⟨q18,0,none⟩)),(19,.pointer (some ⟨q19,0,none⟩)),(74,.slice ta n tc),(75,.int .i64 n),(76,.int .i64 j),(97,.slice (oa j) (an j).length (oc j)),(98,.int .i64 (an j).length),(99,.int .i64 i)]∧∃m',m'≤m+2∧BL q18 q19 o ok z u∧M4 w1 b7 b8 b9 b10 m' (fun _=>0) (pdP ops an j (i+1)) (ppP ops an j (i+1)) (bgv n ops) u) ?_ fun A u3 ⟨_,hS3,m3,hm3,hB3,hM3⟩=>?_
 ·obtain⟨c0,c1,c2,c3⟩:=hB2.cs
  by_cases hk:o.kd=2
  ·by_cases hok:ok=true
   ·rw[if_pos ⟨hk,hok⟩]at e9
    refine piece_mono (krt_41y c0 c1 c2 c3 hk hok hM2.m9 (by omega) (sz hok (.inl hk)).2 (by omega) hS2) fun a u' ⟨hd,hS,g,hF⟩=>⟨hd,hS,m2+1,by omega,hB2.grown g q2 q4,?_⟩
    rw[e9]
    exact hM2.p9 g hF
   ·rw[if_neg (fun h=>hok h.2)]at e9
    refine piece_mono (krt_41b c0 c1 c2 c3 hk (by simpa using hok) hS2) fun a u' ⟨hd,hS,e⟩=>⟨hd,hS,m2,by omega,hB2.heap e,?_⟩
    rw[e9]
    exact hM2.keep (KeptW.heap e)
  ·rw[if_neg (fun h=>hk h.1)]at e9
   refine piece_mono (krt_41a c0 c1 c2 c3 (by simpa using hk) hS2) fun a u' ⟨hd,hS,e⟩=>⟨hd,hS,m2,by omega,hB2.heap e,?_⟩
   rw[e9]
   exact hM2.keep (KeptW.heap e)
 obtain⟨c0,c1,c2,c3⟩:=hB3.cs
 have fin:∀(a:Act) (u':World),(a.defers=[]∧Slots 249 a.tmps [(1,.slice ta n tc),(5,.pointer (some ⟨b5,0,none⟩)),(7,.map (some b7)),(8,.map (some b8)),(9,.map (some b9)),(10,.map (some b10)),(15,.int .i64 j),(74,.slice ta n tc),(75,.int .i64 n),(76,.int .i64 j),(97,.slice (oa j) (an j).length (oc j)),(98,.int .i64 (an j).length),(99,.int .i64 i)]∧u'.heap=u3.heap)→(a.defers=[]∧Slots 249 a.tmps [(1,.slice ta n tc),(5,.pointer (some ⟨b5,0,none⟩)),(7,.map (some b7)),(8,.map (some b8)),(9,.map (some b9)),(10,.map (some b10)),(15,.int .i64 j),(74,.slice ta n tc),(75,.int .i64 n),(76,.int .i64 j),(97,.slice (oa j) (an j).length (oc j)),(98,.int .i64 (an j).length),(99,.int .i64 i)]∧∃m',m'≤m+2∧M4 w1 b7 b8 b9 b10 m' (fun _=>0) (pdP ops an j (i+1)) (ppP ops an j (i+1)) (bgv n ops) u'):=fun a u' ⟨hd,hS,e⟩=>⟨hd,hS,m3,hm3,hM3.keep (KeptW.heap e)⟩
 by_cases hk2:o.kd=2
 ·by_cases hok:ok=true
  ·exact piece_mono (krt_42y2 c0 c1 c2 c3 hk2 hok hM3.m10 (sz hok (.inl hk2)).1 (sz hok (.inl hk2)).2 hS3) fin
  ·exact piece_mono (krt_42n2 c0 c1 c2 c3 hk2 (by simpa using hok) ((hh (.inl hk2)).2 (by simpa using hok)) hS3) fin
 ·by_cases hk3:o.kd=3
  ·by_cases hok:ok=true
   ·exact piece_mono (krt_42y3 c0 c1 c2 c3 hk3 hok hM3.m10 (sz hok (.inr hk3)).1 (sz hok (.inr hk3)).2 hS3) fin
   ·exact piece_mono (krt_42n3 c0 c1 c2 c3 hk3 (by simpa using hok) ((hh (.inr hk3)).2 (by simpa using hok)) hS3) fin
  ·exact piece_mono (krt_42a c0 c1 c2 c3 (by simpa using hk2) (by simpa using hk3) hS3) fin
theorem right_b2(R:RtIn w1 n ops an hs vs live ta ra sa tc rc sc b5 oa va oc vc ord)(hans:∀j,j<n→∀(i:Nat) (o:Op4) (a:Bool×Int),(ops j)[i]? =some o→(an j)[i]? =some a→o.kd=2∨o.kd=3→(a.1=true→0<bgv n ops a.2)∧(a.1=false→a.2=0))(hkd:∀j,j<n→Kd4 (ops j)){j m:Nat}(hj:j<n)(hal:(an j).length≤(ops j).length)(hm:m≤32+16*j){u:World}(hM:M4 w1 b7 b8 b9 b10 m (fun _=>0) (pdP ops an j 0) (ppP ops an j 0) (bgv n ops) u){A:Array Value}(hA:Slots 249 A [(1,.slice ta n tc),(5,.pointer (some ⟨b5,0,none⟩)),(7,.map (some b7)),(8,.map (some b8)),(9,.map (some b9)),(10,.map (some b10)),(15,.int .i64 j),(74,.slice ta n tc),(75,.int .i64 n),(76,.int .i64 j),(97,.slice (oa j) (an j).length (oc j)),(98,.int .i64 (an j).length),(99,.int .i64 (0:Nat))]):
 krtb6.wp Try.prog (nrm fun a u=>a.defers=[]∧Slots 249 a.tmps [(1,.slice ta n tc),(5,.pointer (some ⟨b5,0,none⟩)),(7,.map (some b7)),(8,.map (some b8)),(9,.map (some b9)),(10,.map (some b10)),(74,.slice ta n tc),(75,.int .i64 n),(76,.int .i64 j)]∧∃m',m'≤32+16*(j+1)∧M4 w1 b7 b8 b9 b10 m' (fun _=>0) (pdP ops an (j+1) 0) (ppP ops an (j+1) 0) (bgv n ops) u) ⟨A,[]⟩ u:=by
 obtain⟨o8,o9,o10⟩:=R.o8 j hj
 have n4:=R.n4
 rw[krtb6',krtl32',krts33',krts34',krtc100']
 refine while_nrm (I:=fun g a u=>a.defers=[]∧∃i m',i≤(an j).length∧g=(an j).length - i∧m'≤32+16*j+2*i∧Slots 249 a.tmps [(1,.slice ta n tc),(5,.pointer (some ⟨b5,0,none⟩)),(7,.map (some b7)),(8,.map (some b8)),(9,.map (some b9)),(10,.map (some b10)),(15,.int .i64 j),(74,.slice ta n tc),(75,.int .i64 n),(76,.int .i64 j),(97,.slice (oa j) (an j).length (oc j)),(98,.int .i64 (an j).length),(99,.int .i64 i)]∧M4 w1 b7 b8 b9 b10 m' (fun _=>0) (pdP ops an j i) (ppP ops an j i) (bgv n ops) u)
  (J:=fun g a u=>a.defers=[]∧∃i m',i<(an j).length∧g=(an j).length - i∧m'≤32+16*j+2*i∧Slots 249 a.tmps [(1,.slice ta n tc),(5,.pointer (some ⟨b5,0,none⟩)),(7,.map (some b7)),(8,.map (some b8)),(9,.map (some b9)),(10,.map (some b10)),(15,.int .i64 j),(74,.slice ta n tc),(75,.int .i64 n),(76,.int .i64 j),(97,.slice (oa j) (an j).length (oc j)),(98,.int .i64 (an j).length),(99,.int .i64 i)]∧M4 w1 b7 b8 b9 b10 m' (fun _=>0) (pdP ops an j i) (ppP ops an j i) (bgv n ops) u)
  (fun g a u ⟨hd,i,m',h1,h2,h3,hS,hM⟩=>?_) (fun g a u ⟨hd0,i,m',h1,h2,h3,hS,hM⟩=>?_) (g:=(an j).length) ⟨rfl,0,m,Nat.zero_le _,by omega,by omega,hA,hM⟩
 ·rw[act_nil hd]
  refine piece_mono (krt_22 hS) fun a u' ⟨hd,⟨s0,s1,s5,s7,s8,s9,s10,s15,s74,s75,s76,s97,s98,s99,s100,_⟩,hu⟩=>?_
  have hM:=hM.keep (KeptW.heap hu)
  by_cases hi:i<(an j).length
  ·exact .inl ⟨by rw[s100,decide_eq_true hi],hd,i,m',hi,h2,h3,⟨s0,s1,s5,s7,s8,s9,s10,s15,s74,s75,s76,s97,s98,s99,trivial⟩,hM⟩
  ·obtain rfl:i=(an j).length:=by omega
   rw[pdP_row,ppP_row]at hM
   exact .inr ⟨by rw[s100,decide_eq_false hi],hd,⟨s0,s1,s5,s7,s8,s9,s10,s74,s75,s76,trivial⟩,m',by omega,hM⟩
 ·obtain⟨o,ho⟩:∃o,(ops j)[i]? =some o:=⟨_,List.getElem?_eq_getElem (by omega)⟩
  obtain⟨⟨ok,z⟩,ha⟩:∃a,(an j)[i]? =some a:=⟨_,List.getElem?_eq_getElem h1⟩
  have R2:=R.keep hM.k
  obtain⟨pb,po,eo,f0,f1,f2,f3⟩:=R2.op j hj i o ho
  obtain⟨rb,ro,er,cr⟩:=R2.ann hj
  obtain⟨y0,y1,y2⟩:=ans_get (an j) i
  rw[ha]at y0 y1 y2
  obtain⟨ab,ao,ea,g0⟩:=(R2.ar j hj).c _ _ y0
  obtain⟨_,_,e,g1⟩:=(R2.ar j hj).c _ _ y1
  rw[ea]at e
  cases e
  obtain⟨_,_,e,g2⟩:=(R2.ar j hj).c _ _ y2
  rw[ea]at e
  cases e
  rw[show ao+(i*3+1)=ao+i*3+1 by omega]at g1
  rw[show ao+(i*3+2)=ao+i*3+2 by omega]at g2
  have ct:=R2.cs.1
  have lt8:=hM.m8.lt
  have lt9:=hM.m9.lt
  rw[er]at ct
  rw[ea]at cr
  rw[eo]at hS
  rw[act_nil hd0,krts35']
  refine then2 (R:=fun a u=>a.defers=[]∧Slots 249 a.tmps [(1,.slice ta n tc),(5,.pointer (some ⟨b5,0,none⟩)),(7,.map (some b7)),(8,.map (some b8)),(9,.map (some b9)),(10,.map (some b10)),(15,.int .i64 j),(74,.slice ta n tc),(75,.int .i64 n),(76,.int .i64 j),(97,.slice (some ⟨pb,po,none⟩) (an j).length (oc j)),(98,.int .i64 (an j).length),(99,.int .i64 i)]∧∃m'',m''≤m'+2∧M4 w1 b7 b8 b9 b10 m'' (fun _=>0) (pdP ops an j (i+1)) (ppP ops an j (i+1)) (bgv n ops) u) ?_ fun A u' ⟨_,hS,m'',hm'',hM⟩=>?_
  ·rw[krtb7',krts36']
   refine block_nrm ?_
   refine then2 (krt_23 h1 f0 f1 f2 f3 hS) fun A u2 ⟨_,hS2,hu2⟩=>?_
   have k2:KeptW u u2:=(KeptW.alloc u _).trans (KeptW.heap hu2)
   have z2:u2.heap.size=u.heap.size+1:=by rw[hu2];simp
   rw[krts37']
   refine then2 (krt_24 (k2.cell ct) hj (k2.cell cr) h1 (k2.cell g0) (k2.cell g1) (k2.cell g2) hS2) fun A u3 ⟨_,hS3,hu3⟩=>?_
   have k3:KeptW u2 u3:=(KeptW.alloc u2 _).trans (KeptW.heap hu3)
   rw[← eo]at hS3 ⊢
   refine right_b3 R hans hj h3 (by omega) ho ha (hkd j hj o (List.mem_of_getElem? ho)) ?_ ⟨?_,?_⟩ ((hM.keep k2).keep k3) hS3
   ·exact⟨⟨by omega,by omega⟩,by omega,by omega⟩
   ·rw[k3.2 _ (by omega),hu2];exact heap_alloc_new _ _
   ·rw[hu3];exact heap_alloc_new _ _
  ·refine piece_mono (krt_31 (by omega) hS) fun a u2 ⟨hd,hS2,hu⟩=>⟨(an j).length - (i+1),by omega,hd,i+1,m'',h1,rfl,by omega,by rw[eo];exact hS2,hM.keep (KeptW.heap hu)⟩
theorem right_b(R:RtIn w1 n ops an hs vs live ta ra sa tc rc sc b5 oa va oc vc ord)(hans:∀j,j<n→∀(i:Nat) (o:Op4) (a:Bool×Int),(ops j)[i]? =some o→(an j)[i]? =some a→o.kd=2∨o.kd=3→(a.1=true→0<bgv n ops a.2)∧(a.1=false→a.2=0))(hkd:∀j,j<n→Kd4 (ops j))(hal:∀j,j<n→(an j).length≤(ops j).length){m:Nat}(hm:m≤32){u:World}(hM:M4 w1 b7 b8 b9 b10 m (fun _=>0) (fun _=>0) (fun _=>0) (bgv n ops) u){A:Array Value}(hA:Slots 249 A [(1,.slice ta n tc),(5,.pointer (some ⟨b5,0,none⟩)),(7,.map (some b7)),(8,.map (some b8)),(9,.map (some b9)),(10,.map (some b10))]):
 krts22.wp Try.prog (nrm fun a u=>a.defers=[]∧Slots 249 a.tmps [(1,.slice ta n tc),(5,.pointer (some ⟨b5,0,none⟩)),(7,.map (some b7)),(8,.map (some b8)),(9,.map (some b9)),(10,.map (some b10))]∧∃m',m'≤100∧M4 w1 b7 b8 b9 b10 m' (fun _=>0) (pdv n ops an) (ppv n ops an) (bgv n ops) u) ⟨A,[]⟩ u:=by
 have n4:=R.n4
 rw[krts22']
 refine then2 (krt_16 hA) fun A u' ⟨_,hS,hu⟩=>?_
 have hM:=hM.keep (KeptW.heap hu)
 rw[krtb4',krtl23',krts24',krts25',krtc77']
 refine while_nrm (I:=fun g a u=>a.defers=[]∧∃j m',j≤n∧g=n - j∧m'≤32+16*j∧Slots 249 a.tmps [(1,.slice ta n tc),(5,.pointer (some ⟨b5,0,none⟩)),(7,.map (some b7)),(8,.map (some b8)),(9,.map (some b9)),(10,.map (some b10)),(74,.slice ta n tc),(75,.int .i64 n),(76,.int .i64 j)]∧M4 w1 b7 b8 b9 b10 m' (fun _=>0) (pdP ops an j 0) (ppP ops an j 0) (bgv n ops) u)
  (J:=fun g a u=>a.defers=[]∧∃j m',j<n∧g=n - j∧m'≤32+16*j∧Slots 249 a.tmps [(1,.slice ta n tc),(5,.pointer (some ⟨b5,0,none⟩)),(7,.map (some b7)),(8,.map (some b8)),(9,.map (some b9)),(10,.map (some b10)),(74,.slice ta n tc),(75,.int .i64 n),(76,.int .i64 j)]∧M4 w1 b7 b8 b9 b10 m' (fun _=>0) (pdP ops an j 0) (ppP ops an j 0) (bgv n ops) u)
  (fun g a u ⟨hd,j,m',h1,h2,h3,hS,hM⟩=>?_) (fun g a u ⟨hd0,j,m',h1,h2,h3,hS,hM⟩=>?_) (g:=n) ⟨rfl,0,m,Nat.zero_le _,rfl,by omega,hS,by rw[pdP_zero,ppP_zero];exact hM⟩
 ·rw[act_nil hd]
  refine piece_mono (krt_17 hS) fun a u' ⟨hd,⟨s0,s1,s5,s7,s8,s9,s10,s74,s75,s76,s77,_⟩,hu⟩=>?_
  have hM:=hM.keep (KeptW.heap hu)
  by_cases hi:j<n
  ·exact .inl ⟨by rw[s77,decide_eq_true hi],hd,j,m',hi,h2,h3,⟨s0,s1,s5,s7,s8,s9,s10,s74,s75,s76,trivial⟩,hM⟩
  ·obtain rfl:j=n:=by omega
   rw[pdP_end,ppP_end]at hM
   exact .inr ⟨by rw[s77,decide_eq_false hi],hd,⟨s0,s1,s5,s7,s8,s9,s10,trivial⟩,m',by omega,hM⟩
 ·have R2:=R.keep hM.k
  obtain⟨tb,to,e,c⟩:=R2.th j h1
  obtain⟨rb,ro,er,cr⟩:=R2.ann h1
  have ct:=R2.cs.1
  rw[er]at ct
  obtain⟨o8,o9,o10⟩:=R.o8 j h1
  have hl:=hal j h1
  rw[act_nil hd0,krts26']
  refine then2 (R:=fun a u=>a.defers=[]∧Slots 249 a.tmps [(1,.slice ta n tc),(5,.pointer (some ⟨b5,0,none⟩)),(7,.map (some b7)),(8,.map (some b8)),(9,.map (some b9)),(10,.map (some b10)),(74,.slice ta n tc),(75,.int .i64 n),(76,.int .i64 j)]∧∃m',m'≤32+16*(j+1)∧M4 w1 b7 b8 b9 b10 m' (fun _=>0) (pdP ops an (j+1) 0) (ppP ops an (j+1) 0) (bgv n ops) u) ?_ fun A u' ⟨_,hS,m'',hm'',hM⟩=>?_
  ·rw[krtb5',krts27']
   refine block_nrm ?_
   rw[e]at hS
   refine then2 (krt_18 h1 c hS) fun A u2 ⟨_,hS2,hu2⟩=>?_
   rw[← e]at hS2
   have k2:KeptW u u2:=KeptW.heap hu2
   rw[krts28']
   refine then2 (krt_19 (k2.cell ct) h1 (k2.cell cr) hl hS2) fun A u3 ⟨_,hS3,hu3⟩=>?_
   have k3:KeptW u u3:=k2.trans (KeptW.heap hu3)
   rw[krts31']
   refine then2 (R:=fun a u4=>a.defers=[]∧Slots 249 a.tmps [(1,.slice ta n tc),(5,.pointer (some ⟨b5,0,none⟩)),(7,.map (some b7)),(8,.map (some b8)),(9,.map (some b9)),(10,.map (some b10)),(15,.int .i64 j),(74,.slice ta n tc),(75,.int .i64 n),(76,.int .i64 j),(97,.slice (oa j) (an j).length (oc j)),(98,.int .i64 (an j).length),(99,.int .i64 (0:Nat))]∧u4.heap=u3.heap) ?_ fun A u4 ⟨_,hS4,hu4⟩=>right_b2 R hans hkd h1 hl h3 ((hM.keep k3).keep (KeptW.heap hu4)) hS4
   rcases o10 with⟨ho,z1,z2⟩|⟨pb,po,ho⟩
   ·have z3:(an j).length=0:=by omega
    rw[ho,z1,z2]at hS3
    rw[ho,z2,z3]
    rw[z3]at cr
    exact krt_21n (k3.cell ct) h1 (k3.cell cr) rfl hS3
   ·rw[ho]at hS3
    rw[ho]
    exact krt_21 (k3.cell ct) h1 (k3.cell cr) (by omega) hS3
  ·refine piece_mono (krt_32 (by omega) hS) fun a u2 ⟨hd,hS2,hu⟩=>⟨n - (j+1),by omega,hd,j+1,m'',h1,rfl,hm'',hS2,hM.keep (KeptW.heap hu)⟩
end
end
section
open Go.Maps
variable{w w':World}
section
variable{n:Nat}{ops:Nat→List Op4}{an:Nat→List (Bool×Int)}{hs vs:List Int}{live:Bool}{ta ra sa:Option Addr}{tc rc sc b5:Nat}{oa va:Nat→Option Addr}{oc vc:Nat→Nat}{ord:Value}
 {w1:World} {b7 b8 b9 b10:Nat}
theorem RtIn.bd{w1:World}(R:RtIn w1 n ops an hs vs live ta ra sa tc rc sc b5 oa va oc vc ord){v:Int}(h:0<bgv n ops v): -1000000000000<v∧v<1000000000000:=by
 obtain⟨k,hk,p,p1,p2,p3⟩:=bgv_mem h
 have:=R.sm k hk p p1
 rwa [p3]at this
theorem M4.growR{m:Nat}{f7 f8 f9 f10:Int→Nat}{u u':World}{r:Nat}(h:M4 w1 b7 b8 b9 b10 m f7 f8 f9 f10 u)(g:u.grownBy u' (some r))(hr:w1.heap.size≤r∧b7≠r∧b8≠r∧b9≠r∧b10≠r):M4 w1 b7 b8 b9 b10 m f7 f8 f9 f10 u':=
 ⟨grown_kept h.k hr.1 g,h.m7.kept g (by simp;omega),h.m8.kept g (by simp;omega),h.m9.kept g (by simp;omega),h.m10.kept g (by simp;omega),h.ge,h.ne⟩
theorem self_same(x:Int):(Lit.int .i64 x).sameKey (.int .i64 x)=true:=by simp[Lit.sameKey]
theorem right_c(R:RtIn w1 n ops an hs vs live ta ra sa tc rc sc b5 oa va oc vc ord)(htr:∀v,vs.count v≤1∧(0<vs.count v→0<bgv n ops v))(hvl:vs.length≤1000){m:Nat}(hm:m≤100){u:World}(hM:M4 w1 b7 b8 b9 b10 m (fun _=>0) (pdv n ops an) (ppv n ops an) (bgv n ops) u){A:Array Value}(hA:Slots 249 A [(1,.slice ta n tc),(5,.pointer (some ⟨b5,0,none⟩)),(7,.map (some b7)),(8,.map (some b8)),(9,.map (some b9)),(10,.map (some b10))]):
 krts45.wp Try.prog (nrm fun a u=>a.defers=[]∧Slots 249 a.tmps [(1,.slice ta n tc),(5,.pointer (some ⟨b5,0,none⟩)),(7,.map (some b7)),(8,.map (some b8)),(9,.map (some b9)),(10,.map (some b10))]∧∃m',m'≤10000∧M4 w1 b7 b8 b9 b10 m' (fun v=>vs.count v) (pdv n ops an) (ppv n ops an) (bgv n ops) u) ⟨A,[]⟩ u:=by
 have R2:=R.keep hM.k
 obtain⟨sb,so,es,_⟩:=R2.st.c 0 (.int .i64 ((hs++vs)[0]'(by have:=R.h4;simp;omega))) (by rw[List.getElem?_map,List.getElem?_eq_getElem (by have:=R.h4;simp;omega)];rfl)
 have c2:=R2.cs.2.1
 rw[es]at c2
 rw[krts45']
 refine then2 (krt_33 c2 ⟨by omega,R.scap⟩ hA) fun A u' ⟨_,a9,c9,h9,hS,hu⟩=>?_
 have hM:=hM.keep (KeptW.heap hu)
 rw[show 4+vs.length - 4=vs.length by omega]at hS
 rw[krtb8',krtl46',krts47',krts48',krtc172']
 refine while_nrm (I:=fun g a u=>a.defers=[]∧∃i m',i≤vs.length∧g=vs.length - i∧m'≤100+i∧Slots 249 a.tmps [(1,.slice ta n tc),(5,.pointer (some ⟨b5,0,none⟩)),(7,.map (some b7)),(8,.map (some b8)),(9,.map (some b9)),(10,.map (some b10)),(169,.slice a9 vs.length c9),(170,.int .i64 vs.length),(171,.int .i64 i)]∧M4 w1 b7 b8 b9 b10 m' (fun v=>(vs.take i).count v) (pdv n ops an) (ppv n ops an) (bgv n ops) u)
  (J:=fun g a u=>a.defers=[]∧∃i m',i<vs.length∧g=vs.length - i∧m'≤100+i∧Slots 249 a.tmps [(1,.slice ta n tc),(5,.pointer (some ⟨b5,0,none⟩)),(7,.map (some b7)),(8,.map (some b8)),(9,.map (some b9)),(10,.map (some b10)),(169,.slice a9 vs.length c9),(170,.int .i64 vs.length),(171,.int .i64 i)]∧M4 w1 b7 b8 b9 b10 m' (fun v=>(vs.take i).count v) (pdv n ops an) (ppv n ops an) (bgv n ops) u)
  (fun g a u ⟨hd,i,m',h1,h2,h3,hS,hM⟩=>?_) (fun g a u ⟨hd0,i,m',h1,h2,h3,hS,hM⟩=>?_) (g:=vs.length) ⟨rfl,0,m,Nat.zero_le _,by omega,by omega,hS,hM⟩
 ·rw[act_nil hd]
  refine piece_mono (krt_34 hS) fun a u' ⟨hd,⟨s0,s1,s5,s7,s8,s9,s10,s169,s170,s171,s172,_⟩,hu⟩=>?_
  have hM:=hM.keep (KeptW.heap hu)
  by_cases hi:i<vs.length
  ·exact .inl ⟨by rw[s172,decide_eq_true hi],hd,i,m',hi,h2,h3,⟨s0,s1,s5,s7,s8,s9,s10,s169,s170,s171,trivial⟩,hM⟩
  ·obtain rfl:i=vs.length:=by omega
   rw[List.take_length]at hM
   exact .inr ⟨by rw[s172,decide_eq_false hi],hd,⟨s0,s1,s5,s7,s8,s9,s10,trivial⟩,m',by omega,hM⟩
 ·obtain⟨v,hv⟩:∃v,vs[i]? =some v:=⟨_,List.getElem?_eq_getElem h1⟩
  have R3:=R.keep hM.k
  obtain⟨_,_,e1,cv⟩:=R3.st.c (4+i) (.int .i64 v) (by
   rw[List.getElem?_map,List.getElem?_append_right (by rw[R.h4];omega),R.h4,show 4+i - 4=i by omega,hv];rfl)
  rw[es]at e1
  cases e1
  have ea:a9=some ⟨sb,so+4,none⟩:=h9 (by omega)
  have cv:u.cell? ⟨sb,so+4+i,none⟩=some (.int .i64 v):=by rw[Nat.add_assoc];exact cv
  have hb:0<bgv n ops v:=(htr v).2 (List.count_pos_iff.2 (List.mem_of_getElem? hv))
  have hcl:(vs.take i).count v≤1000:=Nat.le_trans List.count_le_length (by rw[List.length_take];omega)
  rw[act_nil hd0,krts49']
  refine then2 (R:=fun a u=>a.defers=[]∧Slots 249 a.tmps [(1,.slice ta n tc),(5,.pointer (some ⟨b5,0,none⟩)),(7,.map (some b7)),(8,.map (some b8)),(9,.map (some b9)),(10,.map (some b10)),(169,.slice a9 vs.length c9),(170,.int .i64 vs.length),(171,.int .i64 i)]∧M4 w1 b7 b8 b9 b10 (m'+1) (fun v=>(vs.take (i+1)).count v) (pdv n ops an) (ppv n ops an) (bgv n ops) u) ?_ fun A u' ⟨_,hS,hM⟩=>?_
  ·rw[krtb9',krts50']
   refine block_nrm ?_
   rw[ea]at hS
   refine then2 (krt_35 h1 cv hS) fun A u2 ⟨_,hS2,hu2⟩=>?_
   rw[← ea]at hS2
   have hM2:=hM.keep (KeptW.heap hu2)
   refine piece_mono (krt_36 hM2.m7 (by omega) (R.bd hb) (by show(vs.take i).count v<1000000;omega) hS2) fun a u3 ⟨hd,hS3,g,hF⟩=>⟨hd,hS3,?_⟩
   have:inc (fun v=>(vs.take i).count v) v=fun v=>(vs.take (i+1)).count v:=by
    rw[inc_eq]
    funext x
    rw[List.take_add_one,hv,List.count_append]
    rfl
   rw[← this]
   exact hM2.p7 g hF
  ·refine piece_mono (krt_37 (by omega) hS) fun a u2 ⟨hd,hS2,hu⟩=>⟨vs.length - (i+1),by omega,hd,i+1,m'+1,h1,rfl,by omega,hS2,hM.keep (KeptW.heap hu)⟩
theorem right_d(hpp:∀v,ppv n ops an v≤1∧(0<ppv n ops an v→0<bgv n ops v∧vs.count v=0)){m h:Nat}{u:World}(hM:M4 w1 b7 b8 b9 b10 m (fun v=>vs.count v) (pdv n ops an) (ppv n ops an) (bgv n ops) u){A:Array Value}(hA:Slots 249 A [(1,.slice ta n tc),(5,.pointer (some ⟨b5,0,none⟩)),(7,.map (some b7)),(8,.map (some b8)),(9,.map (some b9)),(10,.map (some b10)),(22,.int .i64 h)]):
 krts53.wp Try.prog (nrm fun a u=>a.defers=[]∧Slots 249 a.tmps [(1,.slice ta n tc),(5,.pointer (some ⟨b5,0,none⟩)),(7,.map (some b7)),(8,.map (some b8)),(9,.map (some b9)),(10,.map (some b10)),(22,.int .i64 h)]∧M4 w1 b7 b8 b9 b10 m (fun v=>vs.count v) (pdv n ops an) (ppv n ops an) (bgv n ops) u) ⟨A,[]⟩ u:=by
 rw[krts53']
 refine then2 (krt_39 hM.m9 hA) fun A u' ⟨_,left0,cnt0,hS,hR,hg⟩=>?_
 have q7:=hM.m7.lt
 have q8:=hM.m8.lt
 have q9:=hM.m9.lt
 have q10:=hM.m10.lt
 have hr:w1.heap.size≤u.heap.size∧b7≠u.heap.size∧b8≠u.heap.size∧b9≠u.heap.size∧b10≠u.heap.size:=⟨hM.k.1,by omega,by omega,by omega,by omega⟩
 generalize u.heap.size=r at*
 have hM:=hM.keep (KeptW.grown hg)
 rw[krtb10',krtl54',krts55',krts56',krtc183']
 refine while_nrm (I:=fun g a u=>a.defers=[]∧∃left cnt,g=cnt∧Slots 249 a.tmps [(1,.slice ta n tc),(5,.pointer (some ⟨b5,0,none⟩)),(7,.map (some b7)),(8,.map (some b8)),(9,.map (some b9)),(10,.map (some b10)),(22,.int .i64 h),(181,.pointer (some ⟨r,0,none⟩))]∧MapR u b9 r m (ppv n ops an) left cnt∧M4 w1 b7 b8 b9 b10 m (fun v=>vs.count v) (pdv n ops an) (ppv n ops an) (bgv n ops) u)
  (J:=fun g a u=>a.defers=[]∧∃left' cnt' x,cnt'<g∧0<(ppv n ops an) x∧-9223372036854775808≤x∧x≤9223372036854775807∧Slots 249 a.tmps [(1,.slice ta n tc),(5,.pointer (some ⟨b5,0,none⟩)),(7,.map (some b7)),(8,.map (some b8)),(9,.map (some b9)),(10,.map (some b10)),(22,.int .i64 h),(181,.pointer (some ⟨r,0,none⟩))]∧MapR u b9 r m (ppv n ops an) left' cnt'∧M4 w1 b7 b8 b9 b10 m (fun v=>vs.count v) (pdv n ops an) (ppv n ops an) (bgv n ops) u∧(Instr.entry (.pointer (some ⟨r,0,none⟩))).run Try.prog u= .ok (.tuple #[.int .i64 x,.int .i64 ((ppv n ops an) x:Nat)]) u)
  (fun g a u ⟨hd,left,cnt,h1,hS,hR,hM⟩=>?_) (fun g a u ⟨hd0,left',cnt',x,hlt,hpos,hb1,hb2,hS,hR,hM,hen⟩=>?_) (g:=cnt0) ⟨rfl,left0,cnt0,rfl,hS,hR,hM⟩
 ·rw[act_nil hd]
  refine piece_mono (krt_40 hR hS) fun a u' ⟨hd,hS',hq⟩=>?_
  rcases hq with⟨hc,hu⟩|⟨hc,x,cnt',hl,hpos,hb1,hb2,hlt,hR',hg,hen⟩
  ·obtain⟨s0,s1,s5,s7,s8,s9,s10,s22,s181,_⟩:=hS'
   exact .inr ⟨hc,hd,⟨s0,s1,s5,s7,s8,s9,s10,s22,trivial⟩,hM.keep (KeptW.heap hu)⟩
  ·exact .inl ⟨hc,hd,_,cnt',x,by omega,hpos,hb1,hb2,hS',hR',hM.growR hg hr,hen⟩
 ·rw[act_nil hd0,krtb11',krts57']
  refine block_nrm ?_
  refine then2 (krt_41e hen hS) fun A u3 ⟨_,hS3,hu3⟩=>?_
  have hM3:=hM.keep (KeptW.heap hu3)
  have hR3:=hR.heap hu3
  exact piece_mono (krt_58 (hpp x).1 ⟨hb1,hb2⟩ hM3.m10 hM3.m7 ((hpp x).2 hpos).1 ((hpp x).2 hpos).2 hS3) fun a u4 ⟨hd,hS4,hu4⟩=>⟨cnt',hlt,hd,left',cnt',rfl,hS4,hR3.heap hu4,hM3.keep (KeptW.heap hu4)⟩
theorem right_e(htr:∀v,vs.count v≤1∧(0<vs.count v→0<bgv n ops v)){m h:Nat}{u:World}(hM:M4 w1 b7 b8 b9 b10 m (fun v=>vs.count v) (pdv n ops an) (ppv n ops an) (bgv n ops) u){A:Array Value}(hA:Slots 249 A [(1,.slice ta n tc),(5,.pointer (some ⟨b5,0,none⟩)),(7,.map (some b7)),(8,.map (some b8)),(9,.map (some b9)),(10,.map (some b10)),(22,.int .i64 h)]):
 krts61.wp Try.prog (nrm fun a u=>a.defers=[]∧Slots 249 a.tmps [(1,.slice ta n tc),(5,.pointer (some ⟨b5,0,none⟩)),(7,.map (some b7)),(8,.map (some b8)),(9,.map (some b9)),(10,.map (some b10)),(22,.int .i64 h)]∧M4 w1 b7 b8 b9 b10 m (fun v=>vs.count v) (pdv n ops an) (ppv n ops an) (bgv n ops) u) ⟨A,[]⟩ u:=by
 rw[krts61']
 refine then2 (krt_44 hM.m7 hA) fun A u' ⟨_,left0,cnt0,hS,hR,hg⟩=>?_
 have q7:=hM.m7.lt
 have q8:=hM.m8.lt
 have q9:=hM.m9.lt
 have q10:=hM.m10.lt
 have hr:w1.heap.size≤u.heap.size∧b7≠u.heap.size∧b8≠u.heap.size∧b9≠u.heap.size∧b10≠u.heap.size:=⟨hM.k.1,by omega,by omega,by omega,by omega⟩
 generalize u.heap.size=r at*
 have hM:=hM.keep (KeptW.grown hg)
 rw[krtb12',krtl62',krts63',krts64',krtc204']
 refine while_nrm (I:=fun g a u=>a.defers=[]∧∃left cnt,g=cnt∧Slots 249 a.tmps [(1,.slice ta n tc),(5,.pointer (some ⟨b5,0,none⟩)),(7,.map (some b7)),(8,.map (some b8)),(9,.map (some b9)),(10,.map (some b10)),(22,.int .i64 h),(202,.pointer (some ⟨r,0,none⟩))]∧MapR u b7 r m (fun v=>vs.count v) left cnt∧M4 w1 b7 b8 b9 b10 m (fun v=>vs.count v) (pdv n ops an) (ppv n ops an) (bgv n ops) u)
  (J:=fun g a u=>a.defers=[]∧∃left' cnt' x,cnt'<g∧0<(fun v=>vs.count v) x∧-9223372036854775808≤x∧x≤9223372036854775807∧Slots 249 a.tmps [(1,.slice ta n tc),(5,.pointer (some ⟨b5,0,none⟩)),(7,.map (some b7)),(8,.map (some b8)),(9,.map (some b9)),(10,.map (some b10)),(22,.int .i64 h),(202,.pointer (some ⟨r,0,none⟩))]∧MapR u b7 r m (fun v=>vs.count v) left' cnt'∧M4 w1 b7 b8 b9 b10 m (fun v=>vs.count v) (pdv n ops an) (ppv n ops an) (bgv n ops) u∧(Instr.entry (.pointer (some ⟨r,0,none⟩))).run Try.prog u= .ok (.tuple #[.int .i64 x,.int .i64 ((fun v=>vs.count v) x:Nat)]) u)
  (fun g a u ⟨hd,left,cnt,h1,hS,hR,hM⟩=>?_) (fun g a u ⟨hd0,left',cnt',x,hlt,hpos,hb1,hb2,hS,hR,hM,hen⟩=>?_) (g:=cnt0) ⟨rfl,left0,cnt0,rfl,hS,hR,hM⟩
 ·rw[act_nil hd]
  refine piece_mono (krt_45 hR hS) fun a u' ⟨hd,hS',hq⟩=>?_
  rcases hq with⟨hc,hu⟩|⟨hc,x,cnt',hl,hpos,hb1,hb2,hlt,hR',hg,hen⟩
  ·obtain⟨s0,s1,s5,s7,s8,s9,s10,s22,s202,_⟩:=hS'
   exact .inr ⟨hc,hd,⟨s0,s1,s5,s7,s8,s9,s10,s22,trivial⟩,hM.keep (KeptW.heap hu)⟩
  ·exact .inl ⟨hc,hd,_,cnt',x,by omega,hpos,hb1,hb2,hS',hR',hM.growR hg hr,hen⟩
 ·rw[act_nil hd0,krtb13',krts65']
  refine block_nrm ?_
  refine then2 (krt_46e hen hS) fun A u3 ⟨_,hS3,hu3⟩=>?_
  have hM3:=hM.keep (KeptW.heap hu3)
  have hR3:=hR.heap hu3
  exact piece_mono (krt_66 (htr x).1 ⟨hb1,hb2⟩ hM3.m10 ((htr x).2 hpos) hS3) fun a u4 ⟨hd,hS4,hu4⟩=>⟨cnt',hlt,hd,left',cnt',rfl,hS4,hR3.heap hu4,hM3.keep (KeptW.heap hu4)⟩
theorem right_f(hpp:∀v,ppv n ops an v≤1∧(0<ppv n ops an v→0<bgv n ops v∧vs.count v=0))(htr:∀v,vs.count v≤1∧(0<vs.count v→0<bgv n ops v))(hhd:∀D:List Int,D.Nodup→(∀v,v∈D→0<pdv n ops an v∧ppv n ops an v+vs.count v=0)→D.length≤n∧(live=false→D=[]))(hn4:n≤4){m:Nat}{u:World}(hM:M4 w1 b7 b8 b9 b10 m (fun v=>vs.count v) (pdv n ops an) (ppv n ops an) (bgv n ops) u){A:Array Value}(hA:Slots 249 A [(1,.slice ta n tc),(5,.pointer (some ⟨b5,0,none⟩)),(7,.map (some b7)),(8,.map (some b8)),(9,.map (some b9)),(10,.map (some b10)),(22,.int .i64 (0:Nat))]):
 krts69.wp Try.prog (nrm fun a u=>a.defers=[]∧∃h:Nat,Slots 249 a.tmps [(1,.slice ta n tc),(5,.pointer (some ⟨b5,0,none⟩)),(7,.map (some b7)),(8,.map (some b8)),(9,.map (some b9)),(10,.map (some b10)),(22,.int .i64 h)]∧M4 w1 b7 b8 b9 b10 m (fun v=>vs.count v) (pdv n ops an) (ppv n ops an) (bgv n ops) u∧h≤n∧(live=false→h=0)) ⟨A,[]⟩ u:=by
 rw[krts69']
 refine then2 (krt_49 hM.m8 hA) fun A u' ⟨_,left0,cnt0,hS,hR,hg⟩=>?_
 have q7:=hM.m7.lt
 have q8:=hM.m8.lt
 have q9:=hM.m9.lt
 have q10:=hM.m10.lt
 have hr:w1.heap.size≤u.heap.size∧b7≠u.heap.size∧b8≠u.heap.size∧b9≠u.heap.size∧b10≠u.heap.size:=⟨hM.k.1,by omega,by omega,by omega,by omega⟩
 generalize u.heap.size=r at*
 have hM:=hM.keep (KeptW.grown hg)
 rw[krtb14',krtl70',krts71',krts72',krtc219']
 refine while_nrm (I:=fun g a u=>a.defers=[]∧∃(left:Lit→Bool) (cnt h:Nat) (dn:List Int),g=cnt∧Slots 249 a.tmps [(1,.slice ta n tc),(5,.pointer (some ⟨b5,0,none⟩)),(7,.map (some b7)),(8,.map (some b8)),(9,.map (some b9)),(10,.map (some b10)),(22,.int .i64 h),(217,.pointer (some ⟨r,0,none⟩))]∧MapR u b8 r m (pdv n ops an) left cnt∧M4 w1 b7 b8 b9 b10 m (fun v=>vs.count v) (pdv n ops an) (ppv n ops an) (bgv n ops) u∧dn.Nodup∧(∀v,v∈dn→left (.int .i64 v)=false∧0<pdv n ops an v∧ppv n ops an v+vs.count v=0)∧h=dn.length)
  (J:=fun g a u=>a.defers=[]∧∃(left:Lit→Bool) (cnt h:Nat) (dn:List Int) (x:Int),cnt<g∧0<pdv n ops an x∧-9223372036854775808≤x∧x≤9223372036854775807∧x ∉ dn∧left (.int .i64 x)=false∧(Instr.entry (.pointer (some ⟨r,0,none⟩))).run Try.prog u= .ok (.tuple #[.int .i64 x,.int .i64 (pdv n ops an x:Nat)]) u∧Slots 249 a.tmps [(1,.slice ta n tc),(5,.pointer (some ⟨b5,0,none⟩)),(7,.map (some b7)),(8,.map (some b8)),(9,.map (some b9)),(10,.map (some b10)),(22,.int .i64 h),(217,.pointer (some ⟨r,0,none⟩))]∧MapR u b8 r m (pdv n ops an) left cnt∧M4 w1 b7 b8 b9 b10 m (fun v=>vs.count v) (pdv n ops an) (ppv n ops an) (bgv n ops) u∧dn.Nodup∧(∀v,v∈dn→left (.int .i64 v)=false∧0<pdv n ops an v∧ppv n ops an v+vs.count v=0)∧h=dn.length)
  (fun g a u ⟨hd,left,cnt,h,dn,h1,hS,hR,hM,d1,d2,d3⟩=>?_) (fun g a u ⟨hd0,left,cnt,h,dn,x,hlt,hpos,hb1,hb2,hx,hlx,hen,hS,hR,hM,d1,d2,d3⟩=>?_) (g:=cnt0) ⟨rfl,left0,cnt0,0,[],rfl,hS,hR,hM,List.nodup_nil,fun v hv=>by simp at hv,rfl⟩
 ·rw[act_nil hd]
  refine piece_mono (krt_50 hR hS) fun a u' ⟨hd,hS',hq⟩=>?_
  rcases hq with⟨hc,hu⟩|⟨hc,x,cnt',hl,hpos,hb1,hb2,hlt,hR',hg,hen⟩
  ·obtain⟨s0,s1,s5,s7,s8,s9,s10,s22,s217,_⟩:=hS'
   obtain⟨e1,e2⟩:=hhd dn d1 fun v hv=>(d2 v hv).2
   exact .inr ⟨hc,hd,h,⟨s0,s1,s5,s7,s8,s9,s10,s22,trivial⟩,hM.keep (KeptW.heap hu),by omega,fun e=>by rw[d3,e2 e];rfl⟩
  ·refine .inl ⟨hc,hd,_,cnt',h,dn,x,by omega,hpos,hb1,hb2,fun hx=>?_,by simp[self_same],hen,hS',hR',hM.growR hg hr,d1,fun v hv=>⟨by simp[(d2 v hv).1],(d2 v hv).2⟩,d3⟩
   have:=(d2 x hx).1
   rw[hl]at this
   cases this
 ·have hhl:h≤4:=by have:=(hhd dn d1 fun v hv=>(d2 v hv).2).1;omega
  have hp1:=(hpp x).1
  have ht1:=(htr x).1
  rw[act_nil hd0,krtb15',krts73']
  refine block_nrm ?_
  refine then2 (krt_51e hen hS) fun A u3 ⟨_,hS3,hu3⟩=>?_
  have hM3:=hM.keep (KeptW.heap hu3)
  have hR3:=hR.heap hu3
  by_cases hz:ppv n ops an x+vs.count x=0
  ·exact piece_mono (krt_74y (by omega) ⟨hb1,hb2⟩ hM3.m9 hM3.m7 hz hS3) fun a u4 ⟨hd,hS4,hu4⟩=>⟨cnt,hlt,hd,left,cnt,h+1,x::dn,rfl,hS4,hR3.heap hu4,hM3.keep (KeptW.heap hu4),List.nodup_cons.2 ⟨hx,d1⟩,fun v hv=>by
    rcases List.mem_cons.1 hv with rfl|hv
    ·exact⟨hlx,hpos,hz⟩
    ·exact d2 v hv,by simp[d3]⟩
  ·exact piece_mono (krt_74n (by omega) ⟨hb1,hb2⟩ hM3.m9 hM3.m7 hz (by show ppv n ops an x+vs.count x<1000000000;omega) hS3) fun a u4 ⟨hd,hS4,hu4⟩=>⟨cnt,hlt,hd,left,cnt,h,dn,rfl,hS4,hR3.heap hu4,hM3.keep (KeptW.heap hu4),d1,d2,d3⟩
end
end
section
variable{w w':World}
theorem then3{P:Program}{x y:Code}{R:Act→World→Prop}{Q:Exit→Act→World→Prop}{a:Act}{w:World}(h:x.wp P (nrm R) a w)(hy:∀A u,R ⟨A,[]⟩ u→y.wp P Q ⟨A,[]⟩ u)(hR:∀a u,R a u→a.defers=[]:=by intro a u h;exact h.1):(Code.seq x y).wp P Q a w:=
 wp_then h fun a u q=>by
  obtain⟨A,d⟩:=a
  have e:=hR _ _ q
  simp only at e
  subst e
  exact hy A u q
section
variable{N n:Nat}{ops:Nat→List Op4}{an:Nat→List (Bool×Int)}{hs vs:List Int}{live:Bool}{ta ra sa:Option Addr}{tc rc sc:Nat}{oa va:Nat→Option Addr}{oc vc:Nat→Nat}{ord:Value}
theorem right_wp(H:∀w1,KeptW w w1→w1.heap[w.heap.size]? =some (.cells #[.slice ra n rc,ord,.slice sa (4+vs.length) sc,.bool live] 31 (0,0))→RtIn w1 n ops an hs vs live ta ra sa tc rc sc w.heap.size oa va oc vc ord)
 (r4:Right4 N n ops an vs live) (hN:N≤1000) (hone:∀v,bgv n ops v≤1) (hkd:∀j,j<n→Kd4 (ops j))
 {A:Array Value} (hA:Slots 249 A [(0,.int .i64 N),(1,.slice ta n tc),(2,.agg #[.slice ra n rc,ord,.slice sa (4+vs.length) sc,.bool live])]):
 krts0.wp Try.prog (fun x a u=>x= .ret∧a.defers=[]∧a.tmps.getD 6 undef= .bool true∧KeptW w u) ⟨A,[]⟩ w:=by
 have hvl:=r4.vl
 rw[krts0']
 refine then3 (krt_0 hA) fun A u0 ⟨_,hS,hu0⟩=>?_
 have k0:KeptW w u0:=(KeptW.alloc w _).trans (KeptW.heap hu0)
 have R0:=H u0 k0 (by rw[hu0];exact heap_alloc_new _ _)
 obtain⟨c0,c2,c3⟩:=R0.cs
 rw[krts1']
 refine then3 (krt_2 c0 c2 ⟨by omega,by omega⟩ (by omega) hS) fun A u1 ⟨_,hS,hu1⟩=>?_
 have k1:KeptW w u1:=k0.trans (KeptW.heap hu1)
 have R:=H u1 k1 (by rw[hu1,hu0];exact heap_alloc_new _ _)
 rw[krts4']
 refine then3 (krt_3 hS) fun A u2 ⟨_,hS,hu2⟩=>?_
 have k2:KeptW u1 u2:=(KeptW.alloc u1 _).trans (KeptW.heap hu2)
 have z2:u2.heap.size=u1.heap.size+1:=by rw[hu2];simp
 have m7:MapF u2 u1.heap.size 0 fun _=>0:=(MapF.made u1).keep (by rw[hu2])
 rw[krts5']
 refine then3 (krt_4 hS) fun A u3 ⟨_,hS,hu3⟩=>?_
 have k3:KeptW u2 u3:=((KeptW.alloc u2 _).trans (KeptW.alloc _ _)).trans (KeptW.heap hu3)
 have z3:u3.heap.size=u2.heap.size+2:=by rw[hu3];simp
 have m8:MapF u3 u2.heap.size 0 fun _=>0:=(MapF.made u2).keep (by rw[hu3,heap_alloc_lt _ _ (by simp)])
 have m9:MapF u3 (u2.heap.size+1) 0 fun _=>0:=by
  have:=MapF.made (u2.alloc (.map #[] 0))
  rw[show(u2.alloc (.map #[] 0)).heap.size=u2.heap.size+1 by simp]at this
  exact this.keep (by rw[hu3])
 rw[krts6']
 refine then3 (krt_5 hS) fun A u4 ⟨_,hS,hu4⟩=>?_
 have k4:KeptW u3 u4:=(KeptW.alloc u3 _).trans (KeptW.heap hu4)
 have m10:MapF u4 u3.heap.size 0 fun _=>0:=(MapF.made u3).keep (by rw[hu4])
 have M0:M4 u1 u1.heap.size u2.heap.size (u2.heap.size+1) u3.heap.size 0 (fun _=>0) (fun _=>0) (fun _=>0) (fun _=>0) u4:=
  ⟨(k2.trans k3).trans k4,(m7.keep (k3.2 _ m7.lt)).keep (k4.2 _ (by have:=m7.lt;omega)),m8.keep (k4.2 _ m8.lt),m9.keep (k4.2 _ m9.lt),m10,⟨by omega,by omega,by omega,by omega⟩,⟨by omega,by omega,by omega,by omega,by omega,by omega⟩⟩
 rw[krts7']
 refine then3 (right_a R hone M0 hS) fun A u5 ⟨_,hS,ma,hma,Ma⟩=>?_
 rw[krts21']
 refine then3 (right_b R r4.ans hkd r4.len hma Ma hS) fun A u6 ⟨_,hS,mb,hmb,Mb⟩=>?_
 rw[krts44']
 refine then3 (right_c R r4.tr (by omega) hmb Mb hS) fun A u7 ⟨_,hS,mc,hmc,Mc⟩=>?_
 rw[krts51']
 refine then3 (krt_38 hS) fun A u8 ⟨_,hS,hu8⟩=>?_
 have Mc:=Mc.keep (KeptW.heap hu8)
 rw[krts52']
 refine then3 (right_d r4.pp Mc hS) fun A u9 ⟨_,hS,Md⟩=>?_
 rw[krts60']
 refine then3 (right_e r4.tr Md hS) fun A u10 ⟨_,hS,Me⟩=>?_
 rw[krts68']
 refine then3 (right_f r4.pp r4.tr r4.hd R.n4 Me hS) fun A u11 ⟨_,h,hS,Mf,h1,h2⟩=>?_
 obtain⟨s0,s1,s5,_,_,_,_,s22,_⟩:=hS
 have hS:Slots 249 A [(1,.slice ta n tc),(5,.pointer (some ⟨w.heap.size,0,none⟩)),(22,.int .i64 h)]:=⟨s0,s1,s5,s22,trivial⟩
 have c3:=(R.keep Mf.k).cs.2.2
 rw[krts75']
 cases live with
 | true=>exact then3 (krt_54y c3 h1 hS) fun A u12 ⟨_,hS,hu12⟩=>wp_ret ⟨rfl,rfl,hS.2.1,(k1.trans Mf.k).trans (KeptW.heap hu12)⟩
 | false=>exact then3 (krt_54n c3 (h2 rfl) hS) fun A u12 ⟨_,hS,hu12⟩=>wp_ret ⟨rfl,rfl,hS.2.1,(k1.trans Mf.k).trans (KeptW.heap hu12)⟩
theorem slots3{n m:Nat}{a b c:Value}(h:3+m=n):Slots n (#[a,b,c]++Array.replicate m undef) [(0,a),(1,b),(2,c)]:=by
 refine⟨by simp;omega,?_,?_,?_,trivial⟩
 ·simp[Array.getD_eq_getD_getElem?,Array.getElem?_append]
 ·simp[Array.getD_eq_getD_getElem?,Array.getElem?_append]
 ·simp[Array.getD_eq_getD_getElem?,Array.getElem?_append]
theorem krt_body:Try.f42.body=some krts0:=by kernel_rfl
theorem right_callsB(H:∀w1,KeptW w w1→w1.heap[w.heap.size]? =some (.cells #[.slice ra n rc,ord,.slice sa (4+vs.length) sc,.bool live] 31 (0,0))→RtIn w1 n ops an hs vs live ta ra sa tc rc sc w.heap.size oa va oc vc ord)
 (r4:Right4 N n ops an vs live) (hN:N≤1000) (hone:∀v,bgv n ops v≤1) (hkd:∀j,j<n→Kd4 (ops j)):
 CallsB Try.prog Try.f42 #[.int .i64 N,.slice ta n tc,.agg #[.slice ra n rc,ord,.slice sa (4+vs.length) sc,.bool live]] w fun v u=>v= .bool true∧KeptW w u:=by
 refine callsB_of krt_body (wp_mono (right_wp H r4 hN hone hkd (slots3 rfl)) fun x a u ⟨hx,hd,h6,hk⟩=>?_)
 subst hx
 have h6:a.tmps[6]?.getD undef= .bool true:=by rw[← h6];simp[Array.getD_eq_getD_getElem?]
 exact bodyPost_ret (v:=.bool true) (by simp[results,Try.f42,go_sem,h6]) hd ⟨_,rfl,rfl,hk⟩
end
end
section
variable{w w':World}
theorem infoA34:∃i z,Try.prog.info? 34=some i∧i.zero=some z∧i.size=1∧i.bytes=24∧z.cells.size=1:=infoOf (by kernel_rfl)
theorem nb_0 {x0:Value}{A:Array Value}(hA:Slots 53 A [(0,x0)]):
 knbr0.wp Try.prog (nrm fun a u=>a.defers=[]∧Slots 53 a.tmps [(0,x0)]∧u.heap=w.heap) ⟨A,[]⟩ w:=by
 obtain⟨hsz,k0,_⟩:=hA
 obtain⟨s,rfl⟩:=knbT_of hsz
 change s 0=_ at k0
 clear hsz
 simp only[knbr0,knbBody,pC,Try.f41,Option.getD_some,knbT,k0]
 clear k0
 go_wp2
 exact⟨rfl,⟨rfl,rfl,trivial⟩,rfl⟩
theorem nb_1 {x0:Value}{A:Array Value}(hA:Slots 53 A [(0,x0)]):
 knbr1.wp Try.prog (nrm fun a u=>a.defers=[]∧Slots 53 a.tmps [(0,x0),(3,.slice none 0 0)]∧u.heap=w.heap) ⟨A,[]⟩ w:=by
 obtain⟨hsz,k0,_⟩:=hA
 obtain⟨s,rfl⟩:=knbT_of hsz
 change s 0=_ at k0
 clear hsz
 simp only[knbr1,knbBody,pC,Try.f41,Option.getD_some,knbT,k0]
 clear k0
 go_wp2
 exact⟨rfl,⟨rfl,rfl,rfl,trivial⟩,rfl⟩
theorem nb_2{ad:Addr}{tl tc n:Nat}(hn:min (tl:Int) 4=(n:Int))(hc:n≤tc){x3:Value}{A:Array Value}(hA:Slots 53 A [(0,.slice (some ad) tl tc),(3,x3)]):
 knbr2.wp Try.prog (nrm fun a u=>a.defers=[]∧Slots 53 a.tmps [(3,x3),(13,.slice (some ad) n tc),(14,.int .i64 n),(15,.int .i64 (0:Nat))]∧u.heap=w.heap) ⟨A,[]⟩ w:=by
 have hc2:(n:Int)≤(tc:Int):=by omega
 obtain⟨hsz,k0,k3,_⟩:=hA
 obtain⟨s,rfl⟩:=knbT_of hsz
 change s 0=_ at k0
 change s 3=_ at k3
 clear hsz
 simp only[knbr2,knbBody,pC,Try.f41,Option.getD_some,knbT,k0,k3]
 clear k0 k3
 go_wp2
 all_goals first
  | (obtain rfl:n=4:=by omega
     exact⟨rfl,⟨rfl,rfl,rfl,rfl,rfl,trivial⟩,rfl⟩)
  | (obtain rfl:n=tl:=by omega
     exact⟨rfl,⟨rfl,rfl,rfl,rfl,rfl,trivial⟩,rfl⟩)
theorem nb_2n {x3:Value}{A:Array Value}(hA:Slots 53 A [(0,.slice none 0 0),(3,x3)]):
 knbr2.wp Try.prog (nrm fun a u=>a.defers=[]∧Slots 53 a.tmps [(3,x3),(13,.slice none 0 0),(14,.int .i64 (0:Nat)),(15,.int .i64 (0:Nat))]∧u.heap=w.heap) ⟨A,[]⟩ w:=by
 obtain⟨hsz,k0,k3,_⟩:=hA
 obtain⟨s,rfl⟩:=knbT_of hsz
 change s 0=_ at k0
 change s 3=_ at k3
 clear hsz
 simp only[knbr2,knbBody,pC,Try.f41,Option.getD_some,knbT,k0,k3]
 clear k0 k3
 go_wp2
 exact⟨rfl,⟨rfl,rfl,rfl,rfl,rfl,trivial⟩,rfl⟩
theorem nb_3{i N:Nat}{x3 x13:Value}{A:Array Value}(hA:Slots 53 A [(3,x3),(13,x13),(14,.int .i64 N),(15,.int .i64 i)]):
 knbr3.wp Try.prog (nrm fun a u=>a.defers=[]∧Slots 53 a.tmps [(3,x3),(13,x13),(14,.int .i64 N),(15,.int .i64 i),(16,.bool (decide (i<N)))]∧u.heap=w.heap) ⟨A,[]⟩ w:=by
 obtain⟨hsz,k3,k13,k14,k15,_⟩:=hA
 obtain⟨s,rfl⟩:=knbT_of hsz
 change s 3=_ at k3
 change s 13=_ at k13
 change s 14=_ at k14
 change s 15=_ at k15
 clear hsz
 simp only[knbr3,knbBody,pC,Try.f41,Option.getD_some,knbT,k3,k13,k14,k15]
 clear k3 k13 k14 k15
 go_wp2
 exact⟨rfl,⟨rfl,rfl,rfl,rfl,rfl,rfl,trivial⟩,rfl⟩
theorem nb_4{i n tb to tc:Nat}{v:Value}(hi:i<n)(h0:w.cell? ⟨tb,to+i,none⟩=some v){x3 x14:Value}{A:Array Value}(hA:Slots 53 A [(3,x3),(13,.slice (some ⟨tb,to,none⟩) n tc),(14,x14),(15,.int .i64 i)]):
 knbr4.wp Try.prog (nrm fun a u=>a.defers=[]∧Slots 53 a.tmps [(3,x3),(4,.int .i64 i),(5,v),(13,.slice (some ⟨tb,to,none⟩) n tc),(14,x14),(15,.int .i64 i)]∧u.heap=w.heap) ⟨A,[]⟩ w:=by
 have hi2:(i:Int)<(n:Int):=by omega
 obtain⟨hsz,k3,k13,k14,k15,_⟩:=hA
 obtain⟨s,rfl⟩:=knbT_of hsz
 change s 3=_ at k3
 change s 13=_ at k13
 change s 14=_ at k14
 change s 15=_ at k15
 clear hsz
 simp only[knbr4,knbBody,pC,Try.f41,Option.getD_some,knbT,k3,k13,k14,k15]
 clear k3 k13 k14 k15
 go_wp2
 exact⟨rfl,⟨rfl,rfl,rfl,rfl,rfl,rfl,rfl,trivial⟩,rfl⟩
theorem nb_5 {x3 x4 x5 x13 x14 x15:Value}{A:Array Value}(hA:Slots 53 A [(3,x3),(4,x4),(5,x5),(13,x13),(14,x14),(15,x15)]):
 knbr5.wp Try.prog (nrm fun a u=>a.defers=[]∧Slots 53 a.tmps [(3,x3),(4,x4),(5,x5),(6,.slice none 0 0),(13,x13),(14,x14),(15,x15)]∧u.heap=w.heap) ⟨A,[]⟩ w:=by
 obtain⟨hsz,k3,k4,k5,k13,k14,k15,_⟩:=hA
 obtain⟨s,rfl⟩:=knbT_of hsz
 change s 3=_ at k3
 change s 4=_ at k4
 change s 5=_ at k5
 change s 13=_ at k13
 change s 14=_ at k14
 change s 15=_ at k15
 clear hsz
 simp only[knbr5,knbBody,pC,Try.f41,Option.getD_some,knbT,k3,k4,k5,k13,k14,k15]
 clear k3 k4 k5 k13 k14 k15
 go_wp2
 exact⟨rfl,⟨rfl,rfl,rfl,rfl,rfl,rfl,rfl,rfl,trivial⟩,rfl⟩
theorem nb_6{ad:Addr}{tl tc n:Nat}(hn:min (tl:Int) 8=(n:Int))(hc:n≤tc){x3 x4 x6 x13 x14 x15:Value}{A:Array Value}(hA:Slots 53 A [(3,x3),(4,x4),(5,.slice (some ad) tl tc),(6,x6),(13,x13),(14,x14),(15,x15)]):
 knbr6.wp Try.prog (nrm fun a u=>a.defers=[]∧Slots 53 a.tmps [(3,x3),(4,x4),(6,x6),(13,x13),(14,x14),(15,x15),(24,.slice (some ad) n tc),(25,.int .i64 n),(26,.int .i64 (0:Nat))]∧u.heap=w.heap) ⟨A,[]⟩ w:=by
 have hc2:(n:Int)≤(tc:Int):=by omega
 obtain⟨hsz,k3,k4,k5,k6,k13,k14,k15,_⟩:=hA
 obtain⟨s,rfl⟩:=knbT_of hsz
 change s 3=_ at k3
 change s 4=_ at k4
 change s 5=_ at k5
 change s 6=_ at k6
 change s 13=_ at k13
 change s 14=_ at k14
 change s 15=_ at k15
 clear hsz
 simp only[knbr6,knbBody,pC,Try.f41,Option.getD_some,knbT,k3,k4,k5,k6,k13,k14,k15]
 clear k3 k4 k5 k6 k13 k14 k15
 go_wp2
 all_goals first
  | (obtain rfl:n=8:=by omega
     exact⟨rfl,⟨rfl,rfl,rfl,rfl,rfl,rfl,rfl,rfl,rfl,rfl,trivial⟩,rfl⟩)
  | (obtain rfl:n=tl:=by omega
     exact⟨rfl,⟨rfl,rfl,rfl,rfl,rfl,rfl,rfl,rfl,rfl,rfl,trivial⟩,rfl⟩)
theorem nb_6n {x3 x4 x6 x13 x14 x15:Value}{A:Array Value}(hA:Slots 53 A [(3,x3),(4,x4),(5,.slice none 0 0),(6,x6),(13,x13),(14,x14),(15,x15)]):
 knbr6.wp Try.prog (nrm fun a u=>a.defers=[]∧Slots 53 a.tmps [(3,x3),(4,x4),(6,x6),(13,x13),(14,x14),(15,x15),(24,.slice none 0 0),(25,.int .i64 (0:Nat)),(26,.int .i64 (0:Nat))]∧u.heap=w.heap) ⟨A,[]⟩ w:=by
 obtain⟨hsz,k3,k4,k5,k6,k13,k14,k15,_⟩:=hA
 obtain⟨s,rfl⟩:=knbT_of hsz
 change s 3=_ at k3
 change s 4=_ at k4
 change s 5=_ at k5
 change s 6=_ at k6
 change s 13=_ at k13
 change s 14=_ at k14
 change s 15=_ at k15
 clear hsz
 simp only[knbr6,knbBody,pC,Try.f41,Option.getD_some,knbT,k3,k4,k5,k6,k13,k14,k15]
 clear k3 k4 k5 k6 k13 k14 k15
 go_wp2
 exact⟨rfl,⟨rfl,rfl,rfl,rfl,rfl,rfl,rfl,rfl,rfl,rfl,trivial⟩,rfl⟩
theorem nb_7{i N:Nat}{x3 x4 x6 x13 x14 x15 x24:Value}{A:Array Value}(hA:Slots 53 A [(3,x3),(4,x4),(6,x6),(13,x13),(14,x14),(15,x15),(24,x24),(25,.int .i64 N),(26,.int .i64 i)]):
 knbr7.wp Try.prog (nrm fun a u=>a.defers=[]∧Slots 53 a.tmps [(3,x3),(4,x4),(6,x6),(13,x13),(14,x14),(15,x15),(24,x24),(25,.int .i64 N),(26,.int .i64 i),(27,.bool (decide (i<N)))]∧u.heap=w.heap) ⟨A,[]⟩ w:=by
 obtain⟨hsz,k3,k4,k6,k13,k14,k15,k24,k25,k26,_⟩:=hA
 obtain⟨s,rfl⟩:=knbT_of hsz
 change s 3=_ at k3
 change s 4=_ at k4
 change s 6=_ at k6
 change s 13=_ at k13
 change s 14=_ at k14
 change s 15=_ at k15
 change s 24=_ at k24
 change s 25=_ at k25
 change s 26=_ at k26
 clear hsz
 simp only[knbr7,knbBody,pC,Try.f41,Option.getD_some,knbT,k3,k4,k6,k13,k14,k15,k24,k25,k26]
 clear k3 k4 k6 k13 k14 k15 k24 k25 k26
 go_wp2
 exact⟨rfl,⟨rfl,rfl,rfl,rfl,rfl,rfl,rfl,rfl,rfl,rfl,rfl,trivial⟩,rfl⟩
theorem nb_10{i:Nat}(hi:i<1000000000){x3 x4 x6 x13 x14 x15 x24 x25:Value}{A:Array Value}(hA:Slots 53 A [(3,x3),(4,x4),(6,x6),(13,x13),(14,x14),(15,x15),(24,x24),(25,x25),(26,.int .i64 i)]):
 knbr10.wp Try.prog (nrm fun a u=>a.defers=[]∧Slots 53 a.tmps [(3,x3),(4,x4),(6,x6),(13,x13),(14,x14),(15,x15),(24,x24),(25,x25),(26,.int .i64 (i+1:Nat))]∧u.heap=w.heap) ⟨A,[]⟩ w:=by
 have hwr:IntKind.i64.wrap ((i:Int)+1)=((i+1:Nat):Int):=IntWalk.i64_in _ (by omega)
 obtain⟨hsz,k3,k4,k6,k13,k14,k15,k24,k25,k26,_⟩:=hA
 obtain⟨s,rfl⟩:=knbT_of hsz
 change s 3=_ at k3
 change s 4=_ at k4
 change s 6=_ at k6
 change s 13=_ at k13
 change s 14=_ at k14
 change s 15=_ at k15
 change s 24=_ at k24
 change s 25=_ at k25
 change s 26=_ at k26
 clear hsz
 simp only[knbr10,knbBody,pC,Try.f41,Option.getD_some,knbT,k3,k4,k6,k13,k14,k15,k24,k25,k26]
 clear k3 k4 k6 k13 k14 k15 k24 k25 k26
 go_wp2
 exact⟨rfl,⟨rfl,rfl,rfl,rfl,rfl,rfl,rfl,rfl,rfl,rfl,trivial⟩,rfl⟩
theorem nb_12{i:Nat}(hi:i<1000000000){x3 x13 x14:Value}{A:Array Value}(hA:Slots 53 A [(3,x3),(13,x13),(14,x14),(15,.int .i64 i)]):
 knbr12.wp Try.prog (nrm fun a u=>a.defers=[]∧Slots 53 a.tmps [(3,x3),(13,x13),(14,x14),(15,.int .i64 (i+1:Nat))]∧u.heap=w.heap) ⟨A,[]⟩ w:=by
 have hwr:IntKind.i64.wrap ((i:Int)+1)=((i+1:Nat):Int):=IntWalk.i64_in _ (by omega)
 obtain⟨hsz,k3,k13,k14,k15,_⟩:=hA
 obtain⟨s,rfl⟩:=knbT_of hsz
 change s 3=_ at k3
 change s 13=_ at k13
 change s 14=_ at k14
 change s 15=_ at k15
 clear hsz
 simp only[knbr12,knbBody,pC,Try.f41,Option.getD_some,knbT,k3,k13,k14,k15]
 clear k3 k13 k14 k15
 go_wp2
 exact⟨rfl,⟨rfl,rfl,rfl,rfl,rfl,trivial⟩,rfl⟩
theorem nb_13 {x3:Value}{A:Array Value}(hA:Slots 53 A [(3,x3)]):
 knbr13.wp Try.prog (nrm fun a u=>a.defers=[]∧Slots 53 a.tmps [(2,x3)]∧u.heap=w.heap) ⟨A,[]⟩ w:=by
 obtain⟨hsz,k3,_⟩:=hA
 obtain⟨s,rfl⟩:=knbT_of hsz
 change s 3=_ at k3
 clear hsz
 simp only[knbr13,knbBody,pC,Try.f41,Option.getD_some,knbT,k3]
 clear k3
 go_wp2
 exact⟨rfl,⟨rfl,rfl,trivial⟩,rfl⟩
def nbo(j i:Nat)(k:Int):Op4:=⟨1+k % 4,100*j+i+1,0,0⟩
def RN9(pb po ol oc i j k:Nat)(ov:Value)(cs:List Value)(kd:Int)(x3 x13 x14 x15 x25:Value)(w:World)(a:Act)(u:World):Prop:=a.defers=[]∧∃v',Slots 53 a.tmps [(3,x3),(4,.int .i64 j),(6,v'),(13,x13),(14,x14),(15,x15),(24,.slice (some ⟨pb,po,none⟩) ol oc),(25,x25),(26,.int .i64 i)]∧
 u.ownsRow 0 47 4 v' (k+1) (cs++[.int .i64 (nbo j i kd).kd,.int .i64 (nbo j i kd).a,.int .i64 0,.int .i64 0])∧w.heap.size≤u.heap.size∧(∀r,r<w.heap.size→some r≠ov.ownBlock→u.heap[r]? =w.heap[r]?)∧(v'.ownBlock=ov.ownBlock∨∃g,v'.ownBlock=some g∧w.heap.size≤g)
theorem nb_9{pb po ol oc i j k:Nat}{ov:Value}{cs:List Value}{o:Op4}(hi:i<ol)(hi8:i<1000)(hj:j<1000)(hk:k<1000)(f0:w.cell? ⟨pb,po+i*4,none⟩=some (.int .i64 o.kd))(f1:w.cell? ⟨pb,po+i*4+1,none⟩=some (.int .i64 o.a))(f2:w.cell? ⟨pb,po+i*4+2,none⟩=some (.int .i64 o.b))(f3:w.cell? ⟨pb,po+i*4+3,none⟩=some (.int .i64 o.c))(hr:w.ownsRow 0 47 4 ov k cs){x3 x13 x14 x15 x25:Value}{A:Array Value}(hA:Slots 53 A [(3,x3),(4,.int .i64 j),(6,ov),(13,x13),(14,x14),(15,x15),(24,.slice (some ⟨pb,po,none⟩) ol oc),(25,x25),(26,.int .i64 i)]):
 knbs16.wp Try.prog (nrm (RN9 pb po ol oc i j k ov cs o.kd x3 x13 x14 x15 x25 w)) ⟨A,[]⟩ w:=by
 obtain⟨i0,z0,hI,hz0,hz1,hz2,hz3⟩:=infoA47
 have hi2:(i:Int)<(ol:Int):=by omega
 have R:Aside (w.ownsRow 0 47 4 ov k cs):=hr
 have hq:wrap64 (1+wrap64 ((IntKind.u64.wrap o.kd).tmod 4))=1+o.kd % 4:=by
  have e1:IntKind.u64.wrap o.kd=o.kd % 18446744073709551616:=rfl
  have e2:(IntKind.u64.wrap o.kd).tmod 4=o.kd % 4:=by
   rw[e1,Int.tmod_eq_emod_of_nonneg (Int.emod_nonneg _ (by decide))]
   omega
  rw[e2]
  unfold wrap64
  omega
 clear hr
 obtain⟨hsz,k3,k4,k6,k13,k14,k15,k24,k25,k26,_⟩:=hA
 obtain⟨s,rfl⟩:=knbT_of hsz
 change s 3=_ at k3
 change s 4=_ at k4
 change s 6=_ at k6
 change s 13=_ at k13
 change s 14=_ at k14
 change s 15=_ at k15
 change s 24=_ at k24
 change s 25=_ at k25
 change s 26=_ at k26
 clear hsz
 simp only[knbs16,knbBody,pC,Try.f41,Option.getD_some,knbT,k3,k4,k6,k13,k14,k15,k24,k25,k26]
 clear k3 k4 k6 k13 k14 k15 k24 k25 k26
 go_wp2_with (first
  | (at_builtin;refine wpList_append_fresh rfl (.tmp 31) (.tmp 44) 34 rfl 47 i0 z0 4 32 Try.underlying34 hI hz0 hz1 hz2 hz3 (by decide) ov k cs rfl ((R.out.alloc _).alloc _) ⟨w.heap.size+1,0,none⟩ 1 1 [.int .i64 (1+o.kd % 4),.int .i64 (100*j+i+1),.int .i64 0,.int .i64 0] rfl rfl (new_cells (X:=w.alloc _) (l:=[.int .i64 (1+o.kd % 4),.int .i64 (100*j+i+1),.int .i64 0,.int .i64 0]) (by simp)) (by intro u hu;simp at hu;rcases hu with rfl|rfl|rfl<;>rfl) (by unfold maxLen;omega) (by omega) ?_;intro v' w3 hown hgrow hfr)
  | go_in)
 have hs:=hgrow.size
 refine⟨rfl,_,⟨rfl,rfl,rfl,rfl,rfl,rfl,rfl,rfl,rfl,rfl,trivial⟩,hown,Nat.le_trans (by simp;omega) hs,fun r hr hne=>?_,hfr.imp id fun⟨g,h1,h2⟩=>⟨g,h1,Nat.le_trans (by simp;omega) h2⟩⟩
 rw[hgrow.block r (by simp;omega) hne,heap_alloc_lt _ _ (by simp;omega),heap_alloc_lt _ _ hr]
def RN11(k:Nat)(ov:Value)(cs:List Value)(rv:Value)(x13 x14 x15:Value)(w:World)(a:Act)(u:World):Prop:=a.defers=[]∧∃v',Slots 53 a.tmps [(3,v'),(13,x13),(14,x14),(15,x15)]∧
 u.ownsRow 0 34 1 v' (k+1) (cs++[rv])∧w.heap.size≤u.heap.size∧(∀r,r<w.heap.size→some r≠ov.ownBlock→u.heap[r]? =w.heap[r]?)∧(v'.ownBlock=ov.ownBlock∨∃g,v'.ownBlock=some g∧w.heap.size≤g)
theorem nb_11{ra:Option Addr}{rn rc k:Nat}{ov:Value}{cs:List Value}(hk:k<1000)(hr:w.ownsRow 0 34 1 ov k cs){x13 x14 x15:Value}{A:Array Value}(hA:Slots 53 A [(3,ov),(6,.slice ra rn rc),(13,x13),(14,x14),(15,x15)]):
 knbr11.wp Try.prog (nrm (RN11 k ov cs (.slice ra rn rc) x13 x14 x15 w)) ⟨A,[]⟩ w:=by
 obtain⟨i0,z0,hI,hz0,hz1,hz2,hz3⟩:=infoA34
 have R:Aside (w.ownsRow 0 34 1 ov k cs):=hr
 clear hr
 obtain⟨hsz,k3,k6,k13,k14,k15,_⟩:=hA
 obtain⟨s,rfl⟩:=knbT_of hsz
 change s 3=_ at k3
 change s 6=_ at k6
 change s 13=_ at k13
 change s 14=_ at k14
 change s 15=_ at k15
 clear hsz
 simp only[knbr11,knbBody,pC,Try.f41,Option.getD_some,knbT,k3,k6,k13,k14,k15]
 clear k3 k6 k13 k14 k15
 go_wp2_with (first
  | (at_builtin;refine wpList_append_fresh rfl (.tmp 47) (.tmp 49) 23 rfl 34 i0 z0 1 24 Try.underlying23 hI hz0 hz1 hz2 hz3 (by decide) ov k cs rfl (R.out.alloc _) ⟨w.heap.size,0,none⟩ 1 1 [.slice ra rn rc] rfl rfl (new_cells (X:=w) (l:=[.slice ra rn rc]) rfl) (by intro u hu;simp at hu;subst hu;rfl) (by unfold maxLen;omega) (by omega) ?_;intro v' w3 hown hgrow hfr)
  | go_in)
 have hs:=hgrow.size
 refine⟨rfl,_,⟨rfl,rfl,rfl,rfl,rfl,trivial⟩,hown,Nat.le_trans (by simp) hs,fun r hr hne=>?_,hfr.imp id fun⟨g,h1,h2⟩=>⟨g,h1,Nat.le_trans (by simp) h2⟩⟩
 rw[hgrow.block r (by simp;omega) hne,heap_alloc_lt _ _ hr]
end
section
variable{w w' u u':World}
def nbl(j:Nat):Nat→List Op4→List Op4
 | _,[]=>[]
 | i,o::l=>nbo j i o.kd::nbl j (i+1) l
theorem nbl_len(j:Nat):∀(l:List Op4) (i:Nat),(nbl j i l).length=l.length
 | [],i=>rfl
 | o::l,i=>by simp only[nbl,List.length_cons,nbl_len j l (i+1)]
theorem nbl_snoc(j:Nat)(o:Op4):∀(l:List Op4) (i:Nat),nbl j i (l++[o])=nbl j i l++[nbo j (i+l.length) o.kd]
 | [],i=>rfl
 | p::l,i=>by
   simp only[List.cons_append,nbl,nbl_snoc j o l (i+1),List.length_cons]
   rw[show i+1+l.length=i+(l.length+1)by omega]
def nb(j:Nat)(l:List Op4):List Op4:=nbl j 0 (l.take 8)
def opC(l:List Op4):List Value:=l.flatMap fun x=>[.int .i64 x.kd,.int .i64 x.a,.int .i64 x.b,.int .i64 x.c]
theorem opC_snoc(l:List Op4)(o:Op4):opC (l++[o])=opC l++[.int .i64 o.kd,.int .i64 o.a,.int .i64 o.b,.int .i64 o.c]:=by simp[opC]
theorem opC_get:∀(l:List Op4) (k:Nat) (x:Op4),l[k]? =some x→(opC l)[k*4]? =some (.int .i64 x.kd)∧(opC l)[k*4+1]? =some (.int .i64 x.a)∧(opC l)[k*4+2]? =some (.int .i64 x.b)∧(opC l)[k*4+3]? =some (.int .i64 x.c)
 | [],k,x,h=>by simp at h
 | o::l,0,x,h=>by
   simp at h
   subst h
   exact⟨rfl,rfl,rfl,rfl⟩
 | o::l,k+1,x,h=>by
   have:=opC_get l k x (by simpa using h)
   have e:∀c,(opC (o::l))[(k+1)*4+c]? =(opC l)[k*4+c]?:=fun c=>by
    show([_,_,_,_]++opC l)[(k+1)*4+c]? =_
    rw[List.getElem?_append_right (by simp;omega)]
    simp only[List.length_cons,List.length_nil]
    rw[show(k+1)*4+c - 4=k*4+c by omega]
   have e0:=e 0
   rw[Nat.add_zero,Nat.add_zero]at e0
   rw[e0,e 1,e 2,e 3]
   exact this
structure RowO(w u:World)(rv:Value)(l:List Op4):Prop where
 row:u.ownsRow 0 47 4 rv l.length (opC l)
 k:KeptW w u
 new:∀g,rv.ownBlock=some g→w.heap.size≤g
theorem RowO.start(w:World):RowO w w (.slice none 0 0) []:=⟨⟨rfl,.inl ⟨rfl,rfl⟩⟩,KeptW.refl w,fun g h=>by cases h⟩
theorem RowO.heap{rv:Value}{l:List Op4}(h:RowO w u rv l)(e:u'.heap=u.heap):RowO w u' rv l:=
 ⟨ownsRow_same2 h.row fun b _ _=>by rw[e],h.k.trans (KeptW.heap e),h.new⟩
theorem nb_in{j m oc:Nat}{oa:Option Addr}{l:List Op4}(hj:j<1000)(hm:m≤8)(hml:m≤l.length)(hop:∀i,i<m→∀x,l[i]? =some x→∃pb po,oa=some ⟨pb,po,none⟩∧w.cell? ⟨pb,po+i*4,none⟩=some (.int .i64 x.kd)∧w.cell? ⟨pb,po+i*4+1,none⟩=some (.int .i64 x.a)∧w.cell? ⟨pb,po+i*4+2,none⟩=some (.int .i64 x.b)∧w.cell? ⟨pb,po+i*4+3,none⟩=some (.int .i64 x.c))
 {x3 x13 x14 x15:Value} {A:Array Value} (hA:Slots 53 A [(3,x3),(4,.int .i64 j),(6,.slice none 0 0),(13,x13),(14,x14),(15,x15),(24,.slice oa m oc),(25,.int .i64 m),(26,.int .i64 (0:Nat))]):
 knbb2.wp Try.prog (nrm fun a u=>a.defers=[]∧∃rv,Slots 53 a.tmps [(3,x3),(6,rv),(13,x13),(14,x14),(15,x15)]∧RowO w u rv (nbl j 0 (l.take m))) ⟨A,[]⟩ w:=by
 rw[knbb2',knbl12',knbs13',knbs14',knbc27']
 refine while_nrm (I:=fun g a u=>a.defers=[]∧∃(i:Nat) (rv:Value),i≤m∧g=m - i∧Slots 53 a.tmps [(3,x3),(4,.int .i64 j),(6,rv),(13,x13),(14,x14),(15,x15),(24,.slice oa m oc),(25,.int .i64 m),(26,.int .i64 i)]∧RowO w u rv (nbl j 0 (l.take i)))
  (J:=fun g a u=>a.defers=[]∧∃(i:Nat) (rv:Value),i<m∧g=m - i∧Slots 53 a.tmps [(3,x3),(4,.int .i64 j),(6,rv),(13,x13),(14,x14),(15,x15),(24,.slice oa m oc),(25,.int .i64 m),(26,.int .i64 i)]∧RowO w u rv (nbl j 0 (l.take i)))
  (fun g a u ⟨hd,i,rv,h1,h2,hS,hR⟩=>?_) (fun g a u ⟨hd0,i,rv,h1,h2,hS,hR⟩=>?_) (g:=m) ⟨rfl,0,_,Nat.zero_le _,rfl,hA,RowO.start w⟩
 ·rw[act_nil hd]
  refine piece_mono (nb_7 hS) fun a u' ⟨hd,⟨s0,s3,s4,s6,s13,s14,s15,s24,s25,s26,s27,_⟩,hu⟩=>?_
  by_cases hi:i<m
  ·exact .inl ⟨by rw[s27,decide_eq_true hi],hd,i,rv,hi,h2,⟨s0,s3,s4,s6,s13,s14,s15,s24,s25,s26,trivial⟩,hR.heap hu⟩
  ·obtain rfl:i=m:=by omega
   exact .inr ⟨by rw[s27,decide_eq_false hi],hd,rv,⟨s0,s3,s6,s13,s14,s15,trivial⟩,hR.heap hu⟩
 ·obtain⟨o,ho⟩:∃o,l[i]? =some o:=⟨_,List.getElem?_eq_getElem (by omega)⟩
  obtain⟨pb,po,eo,f0,f1,f2,f3⟩:=hop i h1 o ho
  have k:=hR.k
  have hlen:(nbl j 0 (l.take i)).length=i:=by rw[nbl_len,List.length_take];omega
  have hrow:=hR.row
  rw[hlen]at hrow
  rw[eo]at hS
  rw[act_nil hd0,knbs15']
  have hb:=block_nrm (id:=3) (nb_9 h1 (by omega) hj (by omega) (k.cell f0) (k.cell f1) (k.cell f2) (k.cell f3) hrow hS)
  rw[← knbb3']at hb
  refine then2 hb fun A u2 ⟨_,v',hS2,r1,r2,r3,r4⟩=>?_
  refine piece_mono (nb_10 (by omega) hS2) fun a u3 ⟨hd,hS3,hu3⟩=>⟨m - (i+1),by omega,hd,i+1,v',h1,rfl,by rw[eo];exact hS3,RowO.heap (u:=u2) ?_ hu3⟩
  have e1:l.take (i+1)=l.take i++[o]:=by rw[List.take_add_one,ho];rfl
  have e2:nbl j 0 (l.take (i+1))=nbl j 0 (l.take i)++[nbo j i o.kd]:=by
   rw[e1,nbl_snoc,List.length_take,Nat.min_eq_left (by omega),Nat.zero_add]
  rw[e2]
  refine⟨?_,⟨Nat.le_trans k.1 r2,fun r hr=>(r3 r (Nat.lt_of_lt_of_le hr k.1) fun e=>?_).trans (k.2 r hr)⟩,fun g hg=>?_⟩
  ·rw[List.length_append,hlen,opC_snoc]
   exact r1
  ·have:=hR.new r e.symm
   omega
  ·rcases r4 with e|⟨g',e,h5⟩
   ·exact hR.new g (by rw[← e];exact hg)
   ·rw[e]at hg
    cases hg
    exact Nat.le_trans k.1 h5
structure NbAt(w u:World)(j:Nat)(ov:Value)(rv:Nat→Value)(L:Nat→List Op4):Prop where
 row:u.ownsRow 0 34 1 ov j ((List.range j).map rv)
 k:KeptW w u
 new:∀g,ov.ownBlock=some g→w.heap.size≤g
 rs:∀i,i<j→u.ownsRow 0 47 4 (rv i) (L i).length (opC (L i))∧∀g,(rv i).ownBlock=some g→w.heap.size≤g∧ov.ownBlock≠some g
theorem NbAt.heap{j:Nat}{ov:Value}{rv:Nat→Value}{L:Nat→List Op4}(h:NbAt w u j ov rv L)(e:u'.heap=u.heap):NbAt w u' j ov rv L:=
 ⟨ownsRow_same2 h.row fun b _ _=>by rw[e],h.k.trans (KeptW.heap e),h.new,fun i hi=>⟨ownsRow_same2 (h.rs i hi).1 fun b _ _=>by rw[e],(h.rs i hi).2⟩⟩
theorem NbAt.start(w:World)(rv:Nat→Value)(L:Nat→List Op4):NbAt w w 0 (.slice none 0 0) rv L:=⟨⟨rfl,.inl ⟨rfl,rfl⟩⟩,KeptW.refl w,fun g h=>(by cases h),fun i hi=>(by omega)⟩
theorem own_lt{e:TypeId}{sz n:Nat}{v:Value}{xs:List Value}{g:Nat}(h:u.ownsRow 0 e sz v n xs)(hg:v.ownBlock=some g):g<u.heap.size:=by
 obtain⟨c,hc⟩:=own_row_ty h hg
 exact(alt hc)
theorem NbAt.keep{j:Nat}{ov:Value}{rv:Nat→Value}{L:Nat→List Op4}(h:NbAt w u j ov rv L)(k:KeptW u u'):NbAt w u' j ov rv L:=
 ⟨ownsRow_same2 h.row fun b hb _=>k.2 b (own_lt h.row hb),h.k.trans k,h.new,fun i hi=>⟨ownsRow_same2 (h.rs i hi).1 fun b hb _=>k.2 b (own_lt (h.rs i hi).1 hb),(h.rs i hi).2⟩⟩
theorem NbAt.snoc{j:Nat}{ov x v':Value}{rv:Nat→Value}{L:Nat→List Op4}{l:List Op4}{u1:World}(h:NbAt w u1 j ov rv L)(hx:RowO u1 u x l)
 (r1:u'.ownsRow 0 34 1 v' (j+1) ((List.range j).map rv++[x])) (r2:u.heap.size≤u'.heap.size) (r3:∀r,r<u.heap.size→some r≠ov.ownBlock→u'.heap[r]? =u.heap[r]?) (r4:v'.ownBlock=ov.ownBlock∨∃g,v'.ownBlock=some g∧u.heap.size≤g):
 NbAt w u' (j+1) v' (fun i=>if i=j then x else rv i) (fun i=>if i=j then l else L i):=by
 have hk:=h.keep hx.k
 have e0:∀i,i<j→(if i=j then x else rv i)=rv i:=fun i hi=>if_neg (by omega)
 have hw:w.heap.size≤u.heap.size:=hk.k.1
 refine⟨?_,⟨Nat.le_trans hw r2,fun r hr=>(r3 r (Nat.lt_of_lt_of_le hr hw) fun e=>?_).trans (hk.k.2 r hr)⟩,fun g hg=>?_,fun i hi=>?_⟩
 ·have e:(List.range (j+1)).map (fun i=>if i=j then x else rv i)=(List.range j).map rv++[x]:=by
   rw[List.range_succ,List.map_append,List.map_cons,List.map_nil,if_pos rfl]
   congr 1
   exact List.map_congr_left fun i hi=>e0 i (List.mem_range.1 hi)
  rw[e]
  exact r1
 ·have:=h.new r e.symm
  omega
 ·rcases r4 with e|⟨g',e,h5⟩
  ·exact h.new g (by rw[← e];exact hg)
  ·rw[e]at hg
   cases hg
   omega
 ·by_cases e:i=j
  ·subst e
   simp only[if_true]
   refine⟨ownsRow_same2 hx.row fun b hb _=>r3 b (own_lt hx.row hb) fun e=>?_,fun g hg=>⟨Nat.le_trans h.k.1 (hx.new g hg),fun e=>?_⟩⟩
   ·have h1:=hx.new b hb
    have h2:=own_lt h.row e.symm
    omega
   ·have h1:=hx.new g hg
    have h3:=own_lt hx.row hg
    rcases r4 with e4|⟨g',e4,h5⟩
    ·rw[e4]at e
     have h2:=own_lt h.row e
     omega
    ·rw[e4]at e
     cases e
     omega
  ·simp only[if_neg e]
   obtain⟨q1,q2⟩:=hk.rs i (by omega)
   refine⟨ownsRow_same2 q1 fun b hb _=>r3 b (own_lt q1 hb) fun e=>(q2 b hb).2 e.symm,fun g hg=>⟨(q2 g hg).1,fun e=>?_⟩⟩
   rcases r4 with e4|⟨g',e4,h5⟩
   ·rw[e4]at e
    exact(q2 g hg).2 e
   ·rw[e4]at e
    cases e
    have:=own_lt q1 hg
    omega
end
section
variable{w w' u u':World}
structure Th4(w:World)(ta:Option Addr)(tl tc n:Nat)(oa:Nat→Option Addr)(ol oc:Nat→Nat)(ops:Nat→List Op4):Prop where
 hn:n=min tl 4
 htc:tl≤tc
 htn:ta=none→tl=0∧tc=0
 th:∀j,j<n→∃tb to,ta=some ⟨tb,to,none⟩∧w.cell? ⟨tb,to+j,none⟩=some (.slice (oa j) (ol j) (oc j))
 hoc:∀j,j<n→ol j≤oc j∧(oa j=none→ol j=0∧oc j=0)
 len:∀j,j<n→(ops j).length=min (ol j) 65536
 op:∀j,j<n→∀(i:Nat) (x:Op4),(ops j)[i]? =some x→∃pb po,oa j=some ⟨pb,po,none⟩∧w.cell? ⟨pb,po+i*4,none⟩=some (.int .i64 x.kd)∧w.cell? ⟨pb,po+i*4+1,none⟩=some (.int .i64 x.a)∧w.cell? ⟨pb,po+i*4+2,none⟩=some (.int .i64 x.b)∧w.cell? ⟨pb,po+i*4+3,none⟩=some (.int .i64 x.c)
section
variable{ta:Option Addr}{tl tc n:Nat}{oa:Nat→Option Addr}{ol oc:Nat→Nat}{ops:Nat→List Op4}
theorem Th4.keep(h:Th4 w ta tl tc n oa ol oc ops)(k:KeptW w u):Th4 u ta tl tc n oa ol oc ops:=
 ⟨h.hn,h.htc,h.htn,fun j hj=>by obtain⟨tb,to,e,c⟩:=h.th j hj;exact⟨tb,to,e,k.cell c⟩,h.hoc,h.len,fun j hj i x hx=>by obtain⟨pb,po,e,a,b,c,d⟩:=h.op j hj i x hx;exact⟨pb,po,e,k.cell a,k.cell b,k.cell c,k.cell d⟩⟩
def NbOut(w:World)(n:Nat)(ops:Nat→List Op4)(v:Value)(u:World):Prop:=∃rv L,NbAt w u n v rv L∧∀j,j<n→L j=nb j (ops j)
theorem nb_wp(T:Th4 w ta tl tc n oa ol oc ops){A:Array Value}(hA:Slots 53 A [(0,.slice ta tl tc)]):
 knbs0.wp Try.prog (fun x a u=>x= .ret∧a.defers=[]∧NbOut w n ops (a.tmps.getD 2 undef) u) ⟨A,[]⟩ w:=by
 have hn4:n≤4:=by rw[T.hn];exact Nat.min_le_right _ _
 have hntl:n≤tl:=by rw[T.hn];exact Nat.min_le_left _ _
 rw[knbs0']
 refine then3 (nb_0 hA) fun A u1 ⟨_,hS,hu1⟩=>?_
 rw[knbs1']
 refine then3 (nb_1 hS) fun A u2 ⟨_,hS,hu2⟩=>?_
 have k2:KeptW w u2:=(KeptW.heap hu1).trans (KeptW.heap hu2)
 rw[knbs2']
 refine then3 (R:=fun a u=>a.defers=[]∧∃ov,Slots 53 a.tmps [(3,ov)]∧NbOut w n ops ov u) ?_ fun A u3 ⟨_,ov,hS,hN⟩=>?_
 ·rw[knbs3']
  refine then2 (R:=fun a u=>a.defers=[]∧Slots 53 a.tmps [(3,.slice none 0 0),(13,.slice ta n tc),(14,.int .i64 n),(15,.int .i64 (0:Nat))]∧u.heap=u2.heap) ?_ fun A u3 ⟨_,hS,hu3⟩=>?_
  ·obtain⟨s0,q0,q3,_⟩:=hS
   cases ha:ta with
   | none=>
     obtain⟨e1,e2⟩:=T.htn ha
     have en:n=0:=by omega
     rw[ha,e1,e2]at q0
     rw[en,e2]
     refine piece_mono (nb_2n ⟨s0,q0,q3,trivial⟩) fun a u ⟨hd,hS,hu⟩=>⟨hd,hS,hu⟩
   | some ad=>
     rw[ha]at q0
     exact nb_2 (by rw[T.hn];omega) (by have:=T.htc;omega) ⟨s0,q0,q3,trivial⟩
  have k3:KeptW w u3:=k2.trans (KeptW.heap hu3)
  have hw:u3.heap=w.heap:=by rw[hu3,hu2,hu1]
  rw[knbb0',knbl4',knbs5',knbs6',knbc16']
  refine while_nrm (I:=fun g a u=>a.defers=[]∧∃(j:Nat) (ov:Value) (rv:Nat→Value) (L:Nat→List Op4),j≤n∧g=n - j∧Slots 53 a.tmps [(3,ov),(13,.slice ta n tc),(14,.int .i64 n),(15,.int .i64 j)]∧NbAt w u j ov rv L∧∀i,i<j→L i=nb i (ops i))
   (J:=fun g a u=>a.defers=[]∧∃(j:Nat) (ov:Value) (rv:Nat→Value) (L:Nat→List Op4),j<n∧g=n - j∧Slots 53 a.tmps [(3,ov),(13,.slice ta n tc),(14,.int .i64 n),(15,.int .i64 j)]∧NbAt w u j ov rv L∧∀i,i<j→L i=nb i (ops i))
   (fun g a u ⟨hd,j,ov,rv,L,h1,h2,hS,hN,hL⟩=>?_) (fun g a u ⟨hd0,j,ov,rv,L,h1,h2,hS,hN,hL⟩=>?_) (g:=n) ⟨rfl,0,_,fun _=>undef,fun _=>[],Nat.zero_le _,rfl,hS,(NbAt.start w _ _).heap hw,fun i hi=>by omega⟩
  ·rw[act_nil hd]
   refine piece_mono (nb_3 hS) fun a u' ⟨hd,⟨s0,s3,s13,s14,s15,s16,_⟩,hu⟩=>?_
   by_cases hi:j<n
   ·exact .inl ⟨by rw[s16,decide_eq_true hi],hd,j,ov,rv,L,hi,h2,⟨s0,s3,s13,s14,s15,trivial⟩,hN.heap hu,hL⟩
   ·obtain rfl:j=n:=by omega
    exact .inr ⟨by rw[s16,decide_eq_false hi],hd,ov,⟨s0,s3,trivial⟩,rv,L,hN.heap hu,hL⟩
  ·have T2:=T.keep hN.k
   obtain⟨tb,to,e,c⟩:=T2.th j h1
   obtain⟨o1,o2⟩:=T.hoc j h1
   have ol8:=T.len j h1
   rw[act_nil hd0,knbs7']
   refine then2 (R:=fun a u=>a.defers=[]∧∃(ov:Value) (rv:Nat→Value) (L:Nat→List Op4),Slots 53 a.tmps [(3,ov),(13,.slice ta n tc),(14,.int .i64 n),(15,.int .i64 j)]∧NbAt w u (j+1) ov rv L∧∀i,i<j+1→L i=nb i (ops i)) ?_ fun A u' ⟨_,ov,rv,L,hS,hN,hL⟩=>?_
   ·rw[knbb1',knbs8']
    refine block_nrm ?_
    rw[e]at hS
    refine then2 (nb_4 h1 c hS) fun A u4 ⟨_,hS4,hu4⟩=>?_
    rw[← e]at hS4
    have hN:=hN.heap hu4
    rw[knbs9']
    refine then2 (nb_5 hS4) fun A u5 ⟨_,hS5,hu5⟩=>?_
    have hN:=hN.heap hu5
    rw[knbs10']
    refine then2 (R:=fun a u=>a.defers=[]∧∃rv',Slots 53 a.tmps [(3,ov),(6,rv'),(13,.slice ta n tc),(14,.int .i64 n),(15,.int .i64 j)]∧∃u6,u6.heap=u5.heap∧RowO u6 u rv' (nb j (ops j))) ?_ fun A u7 ⟨_,rv',hS7,u6,hu6,hR⟩=>?_
    ·rw[knbs11']
     refine then2 (R:=fun a u=>a.defers=[]∧Slots 53 a.tmps [(3,ov),(4,.int .i64 j),(6,.slice none 0 0),(13,.slice ta n tc),(14,.int .i64 n),(15,.int .i64 j),(24,.slice (oa j) (min (ol j) 8:Nat) (oc j)),(25,.int .i64 (min (ol j) 8:Nat)),(26,.int .i64 (0:Nat))]∧u.heap=u5.heap) ?_ fun A u6 ⟨_,hS6,hu6⟩=>?_
     ·cases ho:oa j with
      | none=>
        obtain⟨e1,e2⟩:=o2 ho
        rw[ho,e1,e2]at hS5
        rw[e1,e2]
        exact nb_6n hS5
      | some ad=>
        rw[ho]at hS5
        exact nb_6 (by omega) (by omega) hS5
     ·have T6:=(T.keep hN.k).keep (KeptW.heap hu6)
      have et:(ops j).take (min (ol j) 8)=(ops j).take 8:=by
       by_cases h8:ol j≤8
       ·rw[Nat.min_eq_left h8,List.take_of_length_le (by omega),List.take_of_length_le (by omega)]
       ·rw[Nat.min_eq_right (by omega)]
      have:=nb_in (w:=u6) (j:=j) (l:=ops j) (m:=min (ol j) 8) (by omega) (Nat.min_le_right _ _) (by omega) (fun i hi x hx=>T6.op j h1 i x hx) hS6
      rw[et]at this
      exact piece_mono this fun a u ⟨hd,rv',hS,hR⟩=>⟨hd,rv',hS,u6,hu6,hR⟩
    ·have hN:=hN.heap hu6
     have hrow:=(hN.keep hR.k).row
     obtain⟨ra,rn,rc,rfl⟩:∃ra rn rc,rv'= .slice ra rn rc:=by
      rcases hR.row.2 with⟨h,_⟩|⟨g,cap,cur,h,_⟩
      ·exact⟨_,_,_,h⟩
      ·exact⟨_,_,_,h⟩
     refine piece_mono (nb_11 (by omega) hrow hS7) fun a u8 ⟨hd,v',hS8,r1,r2,r3,r4⟩=>⟨hd,v',_,_,hS8,hN.snoc hR r1 r2 r3 r4,fun i hi=>?_⟩
     by_cases ei:i=j
     ·subst ei;simp
     ·simp only[if_neg ei]
      exact hL i (by omega)
   ·refine piece_mono (nb_12 (by omega) hS) fun a u2 ⟨hd,hS2,hu⟩=>⟨n - (j+1),by omega,hd,j+1,ov,rv,L,h1,rfl,hS2,hN.heap hu,hL⟩
 ·rw[knbs17']
  refine then3 (nb_13 hS) fun A u4 ⟨_,hS,hu4⟩=>?_
  obtain⟨rv,L,hN,hL⟩:=hN
  have e:A.getD 2 undef=ov:=hS.2.1
  exact wp_ret ⟨rfl,rfl,by show NbOut w n ops (A.getD 2 undef) u4;rw[e];exact⟨rv,L,hN.heap hu4,hL⟩⟩
theorem slots1{n m:Nat}{a:Value}(h:1+m=n):Slots n (#[a]++Array.replicate m undef) [(0,a)]:=by
 refine⟨by simp;omega,?_,trivial⟩
 simp[Array.getD_eq_getD_getElem?,Array.getElem?_append]
theorem knb_body:Try.f41.body=some knbs0:=by kernel_rfl
theorem nb_callsB(T:Th4 w ta tl tc n oa ol oc ops):CallsB Try.prog Try.f41 #[.slice ta tl tc] w fun v u=>NbOut w n ops v u:=by
 refine callsB_of knb_body (wp_mono (nb_wp T (slots1 rfl)) fun x a u ⟨hx,hd,h⟩=>?_)
 subst hx
 refine bodyPost_ret (v:=a.tmps.getD 2 undef) ?_ hd ⟨_,rfl,h⟩
 simp[results,Try.f41,go_sem,Array.getD_eq_getD_getElem?]
end
end
section
namespace Mp
open Go Go.Conc
variable{P:Program}{F:Fz}{α β γ:Type}
def EvT(F:Fz)(e:Event):Prop:=(e.write=true→(∃a,e.loc= .cell a∧¬held F a)∨∃r,e.loc= .obj r)∧(∀m,e.loc= .mark m→m= .noRoom∨∃f,m= .extern f)
structure Grew(F:Fz)(w w':World)(j:Nat):Prop where
 tape:w'.tape=w.tape
 drawn:w'.drawn=w.drawn+j
 os:w'.os=w.os
 output:w'.output=w.output
 size:w.heap.size≤w'.heap.size
 objs:∀(r:Nat) (o:Obj),w.heap[r]? =some o→(∃(c:Array Value) (e:TypeId) (z:Nat×Nat) (c':Array Value),o= .cells c e z∧w'.heap[r]? =some (.cells c' e z)∧c'.size=c.size)∨w'.heap[r]? =some o∨((∀c e z,o≠.cells c e z)∧∃o',w'.heap[r]? =some o'∧∀c e z,o'≠.cells c e z)
 keep:∀a,held F a→w'.cell? a=w.cell? a
theorem Grew.refl(F:Fz)(w:World):Grew F w w 0:=⟨rfl,rfl,rfl,rfl,Nat.le_refl _,fun _ _ h=>.inr (.inl h),fun _ _=>rfl⟩
theorem Grew.trans{F:Fz}{a b c:World}{i j:Nat}(h:Grew F a b i)(k:Grew F b c j):Grew F a c (i+j):=by
 refine⟨k.tape.trans h.tape,by rw[k.drawn,h.drawn];omega,k.os.trans h.os,k.output.trans h.output,Nat.le_trans h.size k.size,fun r o ho=>?_,fun x hx=>(k.keep x hx).trans (h.keep x hx)⟩
 rcases h.objs r o ho with⟨c1,e1,z1,c2,rfl,h2,h3⟩|h2|⟨h2,o1,h3,h4⟩
 ·rcases k.objs r _ h2 with⟨c3,e3,z3,c4,he,h4,h5⟩|h4|⟨h4,_⟩
  ·cases he
   exact .inl ⟨_,_,_,c4,rfl,h4,by omega⟩
  ·exact .inl ⟨_,_,_,c2,rfl,h4,h3⟩
  ·exact absurd rfl (h4 _ _ _)
 ·exact k.objs r o h2
 ·rcases k.objs r _ h3 with⟨c3,e3,z3,c4,he,_⟩|h5|⟨_,o2,h5,h6⟩
  ·exact absurd he (h4 _ _ _)
  ·exact .inr (.inr ⟨h2,o1,h5,h4⟩)
  ·exact .inr (.inr ⟨h2,o2,h5,h6⟩)
def SimAt(P:Program)(F:Fz)(s:Sem α)(w:World):Prop:=
 match s.run P (mask F w)with
 | .ok v u=>∃w' es j,u=mask F w'∧s.run P w= .ok v w'∧(∀es₀,s.events P w es₀=es₀++es)∧(∀e∈es,EvT F e)∧Grew F w w' j∧Wf F w'∧
  ∀τ e,Agree w j τ e→s.run P (retape (mask F w) τ e)= .ok v (retape u τ (e+j))
 | .halt h _=>Fine h
def Sims(P:Program)(F:Fz)(s:Sem α):Prop:=∀w,Wf F w→SimAt P F s w
theorem SimAt.ok{P:Program}{F:Fz}{s:Sem α}{w:World}{v:α}{u:World}(h:SimAt P F s w)(hr:s.run P (mask F w)= .ok v u):
 ∃w' es j,u=mask F w'∧s.run P w= .ok v w'∧(∀es₀,s.events P w es₀=es₀++es)∧(∀e∈es,EvT F e)∧Grew F w w' j∧Wf F w'∧
  ∀τ e,Agree w j τ e→s.run P (retape (mask F w) τ e)= .ok v (retape u τ (e+j)):=by
 unfold SimAt at h;rw[hr]at h;exact h
theorem Sims.bind'{P:Program}{F:Fz}{s:Sem α}{f:α→Sem β}(hs:Sims P F s)(hf:∀a,Sims P F (f a)):Sims P F (s.bind f):=by
 intro w hw
 have h1:=hs w hw
 unfold SimAt at h1 ⊢
 rw[Sem.run_bind']
 cases hr:s.run P (mask F w)with
 | halt h u=>rw[hr]at h1;exact h1
 | ok a u=>
   rw[hr]at h1
   obtain⟨w1,es1,j1,rfl,r1,e1,t1,g1,hw1,l1⟩:=h1
   simp only[Result.andThen_ok]
   have h2:=hf a w1 hw1
   unfold SimAt at h2
   cases hr2:(f a).run P (mask F w1)with
   | halt h u=>rw[hr2]at h2;exact h2
   | ok b u=>
     rw[hr2]at h2
     obtain⟨w2,es2,j2,rfl,r2,e2,t2,g2,hw2,l2⟩:=h2
     refine⟨w2,es1++es2,j1+j2,rfl,by rw[Sem.run_bind',r1];exact r2,fun es₀=>?_,?_,g1.trans g2,hw2,fun τ e ha=>?_⟩
     ·rw[Sem.events_bind',r1,e1];simp only[Result.evThen_ok];rw[e2,Array.append_assoc]
     ·intro x hx
      rcases Array.mem_append.1 hx with h|h
      ·exact t1 x h
      ·exact t2 x h
     ·rw[Sem.run_bind',l1 τ e (fun i q hi=>ha i q (by omega))]
      simp only[Result.andThen_ok]
      rw[show retape (mask F w1) τ (e+j1)=retape (mask F w1) τ (e+j1)from rfl,l2 τ (e+j1) (fun i q hi=>?_)]
      ·rw[Nat.add_assoc]
      ·have:=ha (j1+i) q (by omega)
       rw[g1.tape,g1.drawn]
       rw[Nat.add_assoc,Nat.add_assoc]
       exact this
theorem Sims.bind{P:Program}{F:Fz}{s:Sem α}{f:α→Sem β}(hs:Sims P F s)(hf:∀a,Sims P F (f a)):Sims P F (s >>= f):=Sims.bind' hs hf
theorem Sims.of{s:Sem α}(h:Go.Proofs.Ytlcgkpapnpdfpaa.Sims P F s):Sims P F s:=by
 intro w hw
 have h1:=h w hw
 unfold SimAt
 unfold Go.Proofs.Ytlcgkpapnpdfpaa.SimAt at h1
 cases hc:s.run P (mask F w)with
 | halt h u=>rw[hc]at h1;exact h1
 | ok v u=>
   rw[hc]at h1
   obtain⟨w',es,j,h2,h3,h4,h5,h6,h7,h8⟩:=h1
   exact⟨w',es,j,h2,h3,h4,fun e he=>⟨fun hw=>.inl ((h5 e he).1 hw),(h5 e he).2⟩,⟨h6.tape,h6.drawn,h6.os,h6.output,h6.size,fun r o ho=>(h6.objs r o ho).imp_right .inl,h6.keep⟩,h7,h8⟩
theorem Sims.map{P:Program}{F:Fz}{s:Sem α}{f:α→β}(hs:Sims P F s):Sims P F (f <$> s):=Sims.bind' hs fun a=>Sims.of (Sims.pure (f a))
theorem Sims.ite{P:Program}{F:Fz}{c:Prop} [Decidable c] {s t:Sem α}(hs:c→Sims P F s)(ht:¬c→Sims P F t):Sims P F (if c then s else t):=by
 split
 ·exact hs ‹_›
 ·exact ht ‹_›
theorem evT_read(a:Addr)(s:Bool):EvT F ⟨.cell a,false,s⟩:=⟨fun h=>by simp at h,fun m h=>by simp at h⟩
theorem evT_write(a:Addr)(s:Bool)(h:¬held F a):EvT F ⟨.cell a,true,s⟩:=⟨fun _=>.inl ⟨a,rfl,h⟩,fun m h=>by simp at h⟩
theorem evT_objw(r:Nat)(s:Bool):EvT F ⟨.obj r,true,s⟩:=⟨fun _=>.inr ⟨r,rfl⟩,fun m h=>by simp at h⟩
theorem evT_obj(r:Nat)(s:Bool):EvT F ⟨.obj r,false,s⟩:=⟨fun h=>by simp at h,fun m h=>by simp at h⟩
theorem Sims.setObj(r:Nat)(o:Obj)(hn:∀c e z,o≠.cells c e z):Sims P F (Go.setObj r o):=by
 intro w hw
 unfold SimAt
 have hr:∀w:World,(Go.setObj r o).run P w=match w.heap[r]? with
  | some (.cells ..) => .halt (.stuck "setObj: a row of cells") w
  | some _=>.ok () {w with heap:=w.heap.setIfInBounds r o}
  | none => .halt (.stuck "setObj: no such block") w := by
  intro w;simp only[Go.setObj,Sem.run]
  cases w.heap[r]? with
  | none=>rfl
  | some o=>cases o<;>rfl
 have he:∀(w:World) es,(Go.setObj r o).events P w es=match w.heap[r]? with
  | some (.cells ..)=>es
  | some _=>es.push ⟨.obj r,true,o.isChan⟩
  | none=>es:=by
  intro w es;simp only[Sem.events,Go.setObj,Sem.runT]
  cases w.heap[r]? with
  | none=>rfl
  | some o=>cases o<;>rfl
 rw[hr,mask_get]
 cases ho:w.heap[r]? with
 | none=>trivial
 | some q=>
   have key:(∀c e z,q≠.cells c e z)→∃w' es j,({mask F w with heap:=(mask F w).heap.setIfInBounds r o}:World)=mask F w'∧(Go.setObj r o).run P w= .ok () w'∧(∀es₀,(Go.setObj r o).events P w es₀=es₀++es)∧(∀e∈es,EvT F e)∧Grew F w w' j∧Wf F w'∧
    ∀τ e,Agree w j τ e→(Go.setObj r o).run P (retape (mask F w) τ e)= .ok () (retape ({mask F w with heap:=(mask F w).heap.setIfInBounds r o}:World) τ (e+j)):=fun hq=>by
    have hlt:=(Array.getElem?_eq_some_iff.1 ho).1
    have hmo:∀o:Obj,(∀c e z,o≠.cells c e z)→maskObj F r o=o:=fun o h=>by
     cases o<;>first|rfl|exact absurd rfl (h _ _ _)
    refine⟨{w with heap:=w.heap.setIfInBounds r o},#[⟨.obj r,true,o.isChan⟩],0,?_,?_,fun es=>?_,fun e h=>?_,⟨rfl,rfl,rfl,rfl,by simp,fun k p hp=>?_,fun a ha=>?_⟩,⟨fun k z hz=>?_⟩,fun τ e _=>?_⟩
    ·suffices e:(mask F w).heap.setIfInBounds r o=(w.heap.setIfInBounds r o).mapIdx (maskObj F)by
      show({mask F w with heap:=(mask F w).heap.setIfInBounds r o}:World)={w with heap:=(w.heap.setIfInBounds r o).mapIdx (maskObj F)}
      rw[e];rfl
     unfold mask
     apply Array.ext_getElem?
     intro i
     simp only[Array.getElem?_setIfInBounds,Array.getElem?_mapIdx,Array.size_mapIdx]
     by_cases hi:r=i
     ·subst hi
      rw[if_pos rfl,if_pos rfl,if_pos hlt]
      simp[hmo o hn]
     ·rw[if_neg hi,if_neg hi]
    ·rw[hr,ho]
     cases q<;>first|rfl|exact absurd rfl (hq _ _ _)
    ·rw[he,ho]
     cases q<;>first|exact Array.push_eq_append|exact absurd rfl (hq _ _ _)
    ·simp only[List.mem_toArray,List.mem_singleton]at h;subst h;exact evT_objw _ _
    ·by_cases hk:r=k
     ·subst hk
      rw[ho]at hp
      cases hp
      exact .inr (.inr ⟨hq,o,by simp[hlt],hn⟩)
     ·exact .inr (.inl (by simpa [Array.getElem?_setIfInBounds_ne hk]using hp))
    ·obtain⟨z,hz,_⟩:=ha
     obtain⟨c,e,_,h1,_⟩:=hw.own _ _ hz
     have hne:r≠a.block:=fun e2=>by
      rw[← e2,ho]at h1
      cases h1
      exact hq _ _ _ rfl
     simp only[World.cell?,Array.getElem?_setIfInBounds_ne hne]
    ·obtain⟨c,e,z0,h1,hin⟩:=hw.own _ _ hz
     have hne:r≠k:=fun e2=>by
      rw[← e2,ho]at h1
      cases h1
      exact hq _ _ _ rfl
     exact⟨c,e,z0,by simpa [Array.getElem?_setIfInBounds_ne hne]using h1,hin⟩
    ·rw[hr,retape_mask,mask_get]
     rw[show(retape w τ e).heap[r]? =w.heap[r]? from rfl,ho]
     simp only[Option.map_some,hmo q hq]
     cases q<;>first|rfl|exact absurd rfl (hq _ _ _)
   cases q<;>simp only[Option.map_some,maskObj]
   case cells=>trivial
   all_goals exact key (fun c e z h=>by cases h)
theorem Sims.congr{s s':Sem α}(hr:∀w,s.run P w=s'.run P w)(he:∀w es,s.events P w es=s'.events P w es)(h:Sims P F s'):Sims P F s:=by
 intro w hw
 have h1:=h w hw
 unfold SimAt at h1 ⊢
 rw[hr]
 cases hc:s'.run P (mask F w)with
 | halt h u=>rw[hc]at h1;exact h1
 | ok v u=>
   rw[hc]at h1
   obtain⟨w',es,j,h2,h3,h4,h5,h6,h7,h8⟩:=h1
   exact⟨w',es,j,h2,by rw[hr];exact h3,fun e=>by rw[he];exact h4 e,h5,h6,h7,fun τ e ha=>by rw[hr];exact h8 τ e ha⟩
theorem Sims.bindUnderlying{t:TypeId}{d:TypeDesc}{f:TypeDesc→Sem β}(h:P.underlying t=some d)(hf:Sims P F (f d)):Sims P F (Go.underlying t >>= f):=by
 have hr:∀w,(Go.underlying t).run P w= .ok d w:=by
  intro w;simp[Go.underlying,Go.program,Sem.run,h]
 have he:∀w es,(Go.underlying t).events P w es=es:=by
  intro w es
  have : Go.underlying t = Sem.program (fun p => (match p.underlying t with | some d => Sem.pure d | none => Go.stuck "no such type" : Sem TypeDesc)) := rfl
  rw[this];simp only[Sem.events,Sem.runT,h]
 exact Sims.congr (s':=f d) (fun w=>by rw[Sem.run_bind,hr];rfl) (fun w es=>by rw[Sem.events_bind,hr];simp only[Result.evThen_ok];rw[he]) hf
end Mp
end
section
namespace Mp
open Go Go.Conc
variable{P:Program}{F:Fz}{α β γ:Type}
def mapOk(P:Program)(px:Bool)(t:TypeId):Bool:=match P.underlying t with
 | some (.map k _)=>(match P.underlying k with
   | some (.int _)=>true
   | _=>false) && eqType P px k
 | _=>false
theorem mapOk_of{px:Bool}{t:TypeId}(h:mapOk P px t=true):∃k e q,P.underlying t=some (.map k e)∧P.underlying k=some (.int q)∧eqType P px k=true:=by
 unfold mapOk at h
 split at h
 ·rename_i k e h1
  rw[Bool.and_eq_true]at h
  obtain⟨h2,h3⟩:=h
  split at h2
  ·rename_i q h4
   exact⟨k,e,q,h1,h4,h3⟩
  ·cases h2
 ·cases h
theorem Sims.makeMap(t:TypeId):Sims P F (Instr.makeMap t none):=by
 unfold Instr.makeMap
 repeat'(first|(with_reducible first|assumption|exact Sims.of (Sims.pure' _)|exact Sims.of (Sims.pure _)|exact Sims.of (Sims.getObj _)|exact Sims.of (Sims.newObj _)|exact Sims.of (Sims.choose _)|exact Sims.of (Sims.zeroValue _)|exact Sims.of (Sims.underlying _)|exact Sims.of (Sims.runtimePanic _)|exact Sims.setObj _ _ (fun c e z h=>by cases h)|refine Sims.bind ?_ (fun _=>?_)|refine Sims.map ?_|refine Sims.ite (fun _=>?_) (fun _=>?_))|dsimp only|split|exact Sims.of (Sims.halt _ trivial))
theorem Sims.checkKey{k:TypeId}{q:IntKind}(hk:P.underlying k=some (.int q))(b:Bool)(n:Nat)(v:Value):Sims P F (Instr.checkKey b (n+1) k v):=by
 unfold Instr.checkKey
 refine Sims.bindUnderlying hk ?_
 exact Sims.of (Sims.pure' _)
theorem Sims.findAsking(px:Bool)(hpx:px=true→∀r,F r=none){k:TypeId}(h:eqType P px k=true)(v:Value):∀(l:List MapEntry) (i:Nat),Sims P F (Instr.findAsking k v l i):=by
 intro l
 induction l with
 | nil=>intro i;exact Sims.of (Sims.pure' _)
 | cons e l ih=>
   intro i
   unfold Instr.findAsking
   refine Sims.bind (Sims.of (Sims.equal px hpx _ _ _ h)) fun b=>?_
   split
   ·exact Sims.of (Sims.pure' _)
   ·exact ih _
theorem Sims.findKey(px:Bool)(hpx:px=true→∀r,F r=none){k:TypeId}{q:IntKind}(hk:P.underlying k=some (.int q))(h:eqType P px k=true)(v:Value)(l:List MapEntry):Sims P F (Instr.findKey k v l):=by
 unfold Instr.findKey
 refine Sims.bindUnderlying hk ?_
 split
 ·exact Sims.of (Sims.pure' _)
 ·exact Sims.findAsking px hpx h v l _
theorem Sims.lookup(px:Bool)(hpx:px=true→∀r,F r=none){t:TypeId}(h:mapOk P px t=true)(x ix:Value)(ok:Bool):Sims P F (Instr.lookup t x ix ok):=by
 obtain⟨k,e,q,h1,h2,h3⟩:=mapOk_of h
 unfold Instr.lookup
 refine Sims.bindUnderlying h1 ?_
 dsimp only
 repeat'(first|(with_reducible first|assumption|exact Sims.of (Sims.pure' _)|exact Sims.of (Sims.pure _)|exact Sims.of (Sims.getObj _)|exact Sims.of (Sims.newObj _)|exact Sims.of (Sims.choose _)|exact Sims.of (Sims.zeroValue _)|exact Sims.of (Sims.underlying _)|exact Sims.of (Sims.runtimePanic _)|exact Sims.setObj _ _ (fun c e z h=>by cases h)|refine Sims.bind ?_ (fun _=>?_)|refine Sims.map ?_|refine Sims.ite (fun _=>?_) (fun _=>?_)|exact Sims.checkKey h2 _ _ _|exact Sims.findKey px hpx h2 h3 _ _)|dsimp only|split|exact Sims.of (Sims.halt _ trivial))
theorem Sims.mapUpdate(px:Bool)(hpx:px=true→∀r,F r=none){t:TypeId}(h:mapOk P px t=true)(m x v:Value):Sims P F (Instr.mapUpdate t m x v):=by
 obtain⟨k,e,q,h1,h2,h3⟩:=mapOk_of h
 unfold Instr.mapUpdate Instr.keyThatStays
 refine Sims.bindUnderlying h1 ?_
 dsimp only
 repeat'(first|(with_reducible first|assumption|exact Sims.of (Sims.pure' _)|exact Sims.of (Sims.pure _)|exact Sims.of (Sims.getObj _)|exact Sims.of (Sims.newObj _)|exact Sims.of (Sims.choose _)|exact Sims.of (Sims.zeroValue _)|exact Sims.of (Sims.underlying _)|exact Sims.of (Sims.runtimePanic _)|exact Sims.setObj _ _ (fun c e z h=>by cases h)|refine Sims.bind ?_ (fun _=>?_)|refine Sims.map ?_|refine Sims.ite (fun _=>?_) (fun _=>?_)|exact Sims.checkKey h2 _ _ _|exact Sims.findKey px hpx h2 h3 _ _)|dsimp only|split|exact Sims.of (Sims.halt _ trivial))
theorem Sims.range(t:TypeId)(x:Value):Sims P F (Instr.range t x):=by
 unfold Instr.range
 repeat'(first|(with_reducible first|assumption|exact Sims.of (Sims.pure' _)|exact Sims.of (Sims.pure _)|exact Sims.of (Sims.getObj _)|exact Sims.of (Sims.newObj _)|exact Sims.of (Sims.choose _)|exact Sims.of (Sims.zeroValue _)|exact Sims.of (Sims.underlying _)|exact Sims.of (Sims.runtimePanic _)|exact Sims.setObj _ _ (fun c e z h=>by cases h)|refine Sims.bind ?_ (fun _=>?_)|refine Sims.map ?_|refine Sims.ite (fun _=>?_) (fun _=>?_))|dsimp only|split|exact Sims.of (Sims.halt _ trivial))
theorem Sims.next(x:Value)(s:Bool)(t:TypeId):Sims P F (Instr.next x s t):=by
 unfold Instr.next
 repeat'(first|(with_reducible first|assumption|exact Sims.of (Sims.pure' _)|exact Sims.of (Sims.pure _)|exact Sims.of (Sims.getObj _)|exact Sims.of (Sims.newObj _)|exact Sims.of (Sims.choose _)|exact Sims.of (Sims.zeroValue _)|exact Sims.of (Sims.underlying _)|exact Sims.of (Sims.runtimePanic _)|exact Sims.setObj _ _ (fun c e z h=>by cases h)|refine Sims.bind ?_ (fun _=>?_)|refine Sims.map ?_|refine Sims.ite (fun _=>?_) (fun _=>?_))|dsimp only|split|exact Sims.of (Sims.halt _ trivial))
theorem Sims.entry(x:Value):Sims P F (Instr.entry x):=by
 unfold Instr.entry
 repeat'(first|(with_reducible first|assumption|exact Sims.of (Sims.pure' _)|exact Sims.of (Sims.pure _)|exact Sims.of (Sims.getObj _)|exact Sims.of (Sims.newObj _)|exact Sims.of (Sims.choose _)|exact Sims.of (Sims.zeroValue _)|exact Sims.of (Sims.underlying _)|exact Sims.of (Sims.runtimePanic _)|exact Sims.setObj _ _ (fun c e z h=>by cases h)|refine Sims.bind ?_ (fun _=>?_)|refine Sims.map ?_|refine Sims.ite (fun _=>?_) (fun _=>?_))|dsimp only|split|exact Sims.of (Sims.halt _ trivial))
end Mp
end
section
namespace Mp
open Go Go.Conc
variable{P:Program}{F:Fz}{α β γ:Type}
def opOk(P:Program)(S:FuncId→Bool)(px:Bool)(o:Op):Bool:=Go.Proofs.Ytlcgkpapnpdfpaa.opOk P (fun _=>false) px o || match o with
 | .makeMap _ r=>r.isNone
 | .lookup t .. | .mapUpdate t .. =>mapOk P px t
 | .range .. | .next .. | .entry _=>true
 | _=>false
def codeOk(P:Program)(S:FuncId→Bool)(px:Bool):Code→Bool
 | .skip| .exit _| .label _| .goto _| .ret| .refuse _=>true
 | .region _ ops _=>ops.all fun o=>opOk P S px o.op
 | .seq a b| .cond _ a b=>codeOk P S px a && codeOk P S px b
 | .block _ c| .loop c| .scope c=>codeOk P S px c
 | .rangeFunc .. =>false
def Entry(P:Program)(px:Bool)(e:Array Value→Sem Value):Prop:=∀F:Fz,(px=true→∀r,F r=none)→∀args,Sims P F (e args)
def Closed(P:Program)(S:FuncId→Bool)(px:Bool):Prop:=
 ∀ f, S f = true → ∃ fn, P.funcs[f]? = some fn ∧ (fn.name == "runtime.NumGoroutine") = false ∧
   ((∃c,fn.body=some c∧codeOk P S px c=true)∨(fn.body=none∧Extern.findNext fn=none∧∃e,Extern.find fn=some e∧Entry P px e))
theorem Kind.of{S:FuncId→Bool}{s:Sem Next}(h:Kind P (fun _=>false) s):Kind P S s:=fun w n u e=>by
 have:=h w n u e
 cases n with
 | enter f a=>exact absurd this.1 (by simp)
 | _=>exact this
theorem execOp_sims{S:FuncId→Bool}{px:Bool}(hC:Closed P S px)(hF:px=true→∀r,F r=none)(ρ:Operand→Value)(hρ:∀v,ρ (.const v)=v)(hρf:∀f,ρ (.func f)= .func (.func f) #[] #[])(o:Oper)(ho:opOk P S px o.op=true):
 Sims P F (execOp ρ o):=by
 have hv:∀s:Sem Value,Sims P F s→Sims P F (do Pure.pure (Next.value (← s))):=fun s hs=>Sims.bind hs fun _=>Sims.of (Sims.pure' _)
 have hu:∀s:Sem Unit,Sims P F s→Sims P F (do s;Pure.pure Next.skip):=fun s hs=>Sims.bind hs fun _=>Sims.of (Sims.pure' _)
 unfold opOk at ho
 rw[Bool.or_eq_true]at ho
 rcases ho with ho|ho
 ·exact Sims.of (Go.Proofs.Ytlcgkpapnpdfpaa.execOp_sims (S:=fun _=>false) (fun f h=>by cases h) hF ρ hρ hρf o ho)
 unfold execOp
 dsimp only
 cases hop:o.op<;>rw[hop]at ho<;>simp only[Bool.false_eq_true]at ho
 case makeMap t r=>
  have e:r=none:=Option.isNone_iff_eq_none.1 ho
  subst e
  exact hv _ (Sims.makeMap _)
 case lookup=>exact hv _ (Sims.lookup px hF ho _ _ _)
 case mapUpdate=>exact hu _ (Sims.mapUpdate px hF ho _ _ _)
 case range=>exact hv _ (Sims.range _ _)
 case next=>exact hv _ (Sims.next _ _ _)
 case entry=>exact hv _ (Sims.entry _)
theorem execOp_kind{S:FuncId→Bool}{px:Bool}(hC:Closed P S px)(ρ:Operand→Value)(hρf:∀f,ρ (.func f)= .func (.func f) #[] #[])(o:Oper)(ho:opOk P S px o.op=true):
 Kind P S (execOp ρ o):=by
 unfold opOk at ho
 rw[Bool.or_eq_true]at ho
 rcases ho with ho|ho
 ·exact Kind.of (Go.Proofs.Ytlcgkpapnpdfpaa.execOp_kind (S:=fun _=>false) (px:=px) (fun f h=>by cases h) ρ hρf o ho)
 unfold execOp
 dsimp only
 cases hop:o.op<;>rw[hop]at ho<;>simp only[Bool.false_eq_true]at ho
 case mapUpdate=>exact Kind.skip _
 all_goals exact Kind.value _
end Mp
end
section
namespace Mp
open Go Go.Conc
variable{P:Program}{F:Fz}{S:FuncId→Bool}{px:Bool}
def itemOk(P:Program)(S:FuncId→Bool)(px:Bool):Item→Prop
 | .code c| .inLoop c| .inScope c=>codeOk P S px c=true
 | .inBlock _=>True
 | .inRegion ops _=>(ops.all fun o=>opOk P S px o.op)=true
 | _=>False
theorem findLabel_ok{l:Nat}:∀(c c':Code),findLabel c l=some c'→codeOk P S px c=true→codeOk P S px c'=true:=by
 intro c
 induction c with
 | seq a b iha ihb=>
   intro c' h hok
   simp only[findLabel]at h
   simp only[codeOk,Bool.and_eq_true]at hok
   split at h
   ·rename_i r hr
    cases h
    simp only[codeOk,Bool.and_eq_true]
    exact⟨iha _ hr hok.1,hok.2⟩
   ·exact ihb _ h hok.2
 | label l'=>
   intro c' h hok
   simp only[findLabel]at h
   split at h
   ·cases h;rfl
   ·cases h
 | _=>intro c' h hok;simp[findLabel]at h
theorem gotoIn_ok{l:Nat}{t t':List Item}(h:gotoIn l t=some t')(hok:∀x∈t,itemOk P S px x):∀x∈t',itemOk P S px x:=by
 induction t with
 | nil=>cases h
 | cons y t ih=>
   cases y<;>simp only[gotoIn]at h<;>first
    | exact ih h (fun x hx=>hok x (List.mem_cons_of_mem _ hx))
    | (split at h
       ·rename_i r hr
        cases h
        intro x hx
        rcases List.mem_cons.1 hx with rfl|hx
        ·exact findLabel_ok _ _ hr (hok _ (List.mem_cons_self ..))
        ·exact hok x hx
       ·exact ih h (fun x hx=>hok x (List.mem_cons_of_mem _ hx)))
theorem ctl_ok{a:Act}{t t':List Item}(h:ctl a t=some t')(hok:∀x∈t,itemOk P S px x):∀x∈t',itemOk P S px x:=by
 cases t with
 | nil=>cases h
 | cons y t=>
   have h0:=hok y (List.mem_cons_self ..)
   have h1:∀x∈t,itemOk P S px x:=fun x hx=>hok x (List.mem_cons_of_mem _ hx)
   have h2:∀{x y:Item},itemOk P S px x→itemOk P S px y→∀z∈x::y::t,itemOk P S px z:=by
    intro x y hx hy z hz
    rcases List.mem_cons.1 hz with rfl|hz
    ·exact hx
    ·rcases List.mem_cons.1 hz with rfl|hz
     ·exact hy
     ·exact h1 z hz
   have h3:∀{x:Item},itemOk P S px x→∀z∈x::t,itemOk P S px z:=by
    intro x hx z hz
    rcases List.mem_cons.1 hz with rfl|hz
    ·exact hx
    ·exact h1 z hz
   cases y with
   | code c=>
     simp only[itemOk]at h0
     cases c with
     | skip=>cases h;exact h1
     | label=>cases h;exact h1
     | seq x y=>
       cases h
       simp only[codeOk,Bool.and_eq_true]at h0
       exact h2 (x:=.code x) (y:=.code y) h0.1 h0.2
     | cond c x y=>
       simp only[ctl]at h
       simp only[codeOk,Bool.and_eq_true]at h0
       split at h
       ·rename_i b hb
        cases h
        cases b
        ·exact h3 (x:=.code _) h0.2
        ·exact h3 (x:=.code _) h0.1
       ·cases h
     | block id c=>cases h;exact h2 (x:=.code c) (y:=.inBlock id) h0 trivial
     | loop c=>cases h;exact h2 (x:=.code c) (y:=.inLoop c) h0 h0
     | scope c=>cases h;exact h2 (x:=.code c) (y:=.inScope c) h0 h0
     | exit id=>exact fun x hx=>h1 x (exitTo_mem h x hx)
     | goto l=>exact gotoIn_ok h h1
     | region id ops d=>
       cases d with
       | false=>cases h;exact h3 (x:=.inRegion ops _) h0
       | true=>cases h
     | _=>cases h
   | inBlock=>cases h;exact h1
   | inScope=>cases h;exact h1
   | inLoop c=>cases h;exact h2 (x:=.code c) (y:=.inLoop c) h0 h0
   | inRegion ops l=>
     cases l with
     | nil=>cases h;exact h1
     | cons=>cases h
   | _=>cases h
end Mp
end
section
namespace Mp
open Go Go.Conc
variable{P:Program}{F:Fz}{S:FuncId→Bool}{px:Bool}
inductive FOut(P:Program)(F:Fz)(S:FuncId→Bool)(px:Bool)(fn:FuncId)(a:Act)(t:List Item)(w:World):Prop
 | dead (h:∀(b:Frame) (k:List Item) (cs:List Frame),b.fn=fn→b.kind≠.early→(k=[]∨k=endK)→StepDead P (b.at a (t++k)) cs (mask F w))
 | go (a':Act) (t':List Item) (w':World) (es:Array Event) (j:Nat) (hd:a'.defers=[]) (hok:∀x∈t',itemOk P S px x) (hw:Wf F w') (hg:Grew F w w' j) (he:∀e∈es,EvT F e)
  (hs:∀(main:Bool) (b:Frame) (k:List Item) (cs:List Frame),b.fn=fn→b.kind≠.early→stepG P main (G (b.at a (t++k)) cs) w= .go (G (b.at a' (t'++k)) cs) w' es)
  (hl:∀(τ:Tape) (e:Nat) (b:Frame) (k:List Item) (cs:List Frame),Agree w j τ e→b.fn=fn→b.kind≠.early→(stepG P true (G (b.at a (t++k)) cs) (retape (mask F w) τ e)).bare= .go (G (b.at a' (t'++k)) cs) (retape (mask F w') τ (e+j)))
 | enter (f:FuncId) (args:Array Value) (w':World) (es:Array Event) (j:Nat) (hf:S f=true) (hb:∃fn c,P.funcs[f]? =some fn∧fn.body=some c) (ht:∃ops i rest t0,t= .inRegion ops (i::rest)::t0) (hw:Wf F w') (hg:Grew F w w' j) (he:∀e∈es,EvT F e)
  (hs:∀(main:Bool) (b:Frame) (k:List Item) (cs:List Frame),b.fn=fn→b.kind≠.early→stepG P main (G (b.at a (t++k)) cs) w= .go (G (Frame.enter P f args .normal) (b.at a (t++k)::cs)) w' es)
  (hl:∀(τ:Tape) (e:Nat) (b:Frame) (k:List Item) (cs:List Frame),Agree w j τ e→b.fn=fn→b.kind≠.early→(stepG P true (G (b.at a (t++k)) cs) (retape (mask F w) τ e)).bare= .go (G (Frame.enter P f args .normal) (b.at a (t++k)::cs)) (retape (mask F w') τ (e+j)))
theorem evT_listed{o:Oper}{a:Act}{w:World}{fn:FuncId}{es:Array Event}(h:∀es₀,(execOp a.eval o).events P w es₀=es₀++es)(he:∀e∈es,EvT F e):∀e∈listed P fn a o w,EvT F e:=by
 intro e hm
 have:=mem_listed hm
 rw[h]at this
 exact he e (by simpa using this)
theorem frame_step(hC:Closed P S px)(hF:px=true→∀r,F r=none)(hE:NoEarly P){a:Act}{t:List Item}(fn:FuncId)(hd:a.defers=[])(hok:∀x∈t,itemOk P S px x)(hne:t≠[])
 (hret:∀t',t≠.code .ret::t') (w:World) (hw:Wf F w):FOut P F S px fn a t w:=by
 cases hc:ctl a t with
 | some t'=>
   exact .go a t' w #[] 0 hd (ctl_ok hc hok) hw (.refl _ _) (by simp) (fun main b k cs _ _=>ctl_step hc main b k cs w) (fun τ e b k cs _ _ _=>bare_go_eq (ctl_step hc true b k cs _))
 | none=>
   cases t with
   | nil=>exact absurd rfl hne
   | cons y t=>
     have h0:=hok y (List.mem_cons_self ..)
     have h1:∀x∈t,itemOk P S px x:=fun x hx=>hok x (List.mem_cons_of_mem _ hx)
     cases y with
     | code c=>
       cases c with
       | ret=>exact absurd rfl (hret t)
       | refuse s=>exact .dead fun b k cs _ _ _=>refuse_dead _ _ _ _ _ _
       | cond c x y=>
         refine .dead fun b k cs _ _ _=>.inl ?_
         simp only[ctl]at hc
         have he:=Frame.eval_at b a (.code (.cond c x y)::(t++k)) c
         simp only[Frame.at]at he
         cases hv:a.eval c with
         | bool b=>rw[hv]at hc;cases hc
         | _ => exact ⟨.stuck "cond: bool expected" ((b.at a (.code (.cond c x y) :: (t ++ k))).pos P), mask F w, by simp only [List.cons_append, G, stepG, stepG.exec, Frame.at, he, hv]; rfl⟩
       | exit id=>
         refine .dead fun b k cs _ _ hk=>.inl ?_
         have hx:exitTo id (t++k)=none:=by
          rw[exitTo_append_none k hc]
          rcases hk with rfl|rfl<;>rfl
         exact ⟨.stuck "exit, goto: no such block or label" ((b.at a (.code (.exit id) :: (t ++ k))).pos P), mask F w, by simp only [List.cons_append, G, stepG, stepG.exec, Frame.at, hx, Option.elim]; rfl⟩
       | goto l=>
         refine .dead fun b k cs _ _ hk=>.inl ?_
         have hx:gotoIn l (t++k)=none:=by
          rw[gotoIn_append_none k hc]
          rcases hk with rfl|rfl<;>rfl
         exact ⟨.stuck "exit, goto: no such block or label" ((b.at a (.code (.goto l) :: (t ++ k))).pos P), mask F w, by simp only [List.cons_append, G, stepG, stepG.exec, Frame.at, hx, Option.elim]; rfl⟩
       | rangeFunc=>simp[itemOk,codeOk]at h0
       | region id ops d=>
         cases d with
         | false=>cases hc
         | true=>
           simp only[itemOk,codeOk]at h0
           refine .go a (.inRegion ops (Region.schedule (P.follows .mixedOrders) ops (w.tape w.drawn (.order fn id)))::t) {w with drawn:=w.drawn+1} #[] 1 hd ?_ ⟨hw.own⟩ ⟨rfl,rfl,rfl,rfl,Nat.le_refl _,fun _ _ h=>.inr (.inl h),fun _ _=>rfl⟩ (by simp) (fun main b k cs hb _=>?_) (fun τ e b k cs ha hb _=>?_)
           ·intro z hz
            rcases List.mem_cons.1 hz with rfl|hz
            ·exact h0
            ·exact h1 z hz
           ·subst hb;exact stepG_region_draw
           ·subst hb
            refine bare_go_eq (es:= #[]) ((stepG_region_draw).trans ?_)
            have:=ha 0 (.order b.fn id) (by omega)
            simp only[Nat.add_zero]at this
            simp only[retape_tape,retape_drawn,this]
            rfl
       | _=>cases hc
     | inRegion ops l=>
       cases l with
       | nil=>cases hc
       | cons i rest=>
         cases ho:ops[i]? with
         | none=>
           refine .go a (.inRegion ops rest::t) w #[] 0 hd ?_ hw (.refl _ _) (by simp) (fun main b k cs _ _=>stepG_noOper ho) (fun τ e b k cs _ _ _=>bare_go_eq (stepG_noOper ho))
           intro z hz
           rcases List.mem_cons.1 hz with rfl|hz
           ·exact h0
           ·exact h1 z hz
         | some o=>
           have hput:∀(v:Value) (z:Item),z∈Item.inRegion ops rest::t→itemOk P S px z:=by
            intro v z hz
            rcases List.mem_cons.1 hz with rfl|hz
            ·exact h0
            ·exact h1 z hz
           cases hwt:Region.wanted o (yielded ops a.tmps)with
           | false=>
             exact .go (a.put o.dst undef) (.inRegion ops rest::t) w #[] 0 (by rw[put_defers];exact hd) (hput undef) hw (.refl _ _) (by simp) (fun main b k cs _ _=>stepG_unwanted ho hwt) (fun τ e b k cs _ _ _=>bare_go_eq (stepG_unwanted ho hwt))
           | true=>
             have hoo:opOk P S px o.op=true:=by
              simp only[itemOk,Array.all_eq_true_iff_forall_mem]at h0
              exact h0 o (Array.mem_of_getElem? ho)
             have hsim:=execOp_sims hC hF a.eval (fun _=>rfl) (fun _=>rfl) o hoo w hw
             have hkind:=execOp_kind hC a.eval (fun _=>rfl) o hoo
             cases hr:(execOp a.eval o).run P (mask F w)with
             | ok n u=>
               have hn:=hkind _ _ _ hr
               obtain⟨w',es,j,rfl,r1,e1,t1,g1,hw1,l1⟩:=hsim.ok hr
               cases n with
               | value v=>
                 refine .go (a.put o.dst v) (.inRegion ops rest::t) w' (listed P fn a o w) j (by rw[put_defers];exact hd) (hput v) hw1 g1 (evT_listed e1 t1) (fun main b k cs hb hk=>?_) (fun τ e b k cs ha hb hk=>?_)
                 ·subst hb;exact stepG_value ho hwt hk r1
                 ·exact bare_go_eq (stepG_value ho hwt hk (l1 τ e ha))
               | skip=>
                 refine .go (a.put o.dst undef) (.inRegion ops rest::t) w' (listed P fn a o w) j (by rw[put_defers];exact hd) (hput undef) hw1 g1 (evT_listed e1 t1) (fun main b k cs hb hk=>?_) (fun τ e b k cs ha hb hk=>?_)
                 ·subst hb;exact stepG_none ho hwt hk r1
                 ·exact bare_go_eq (stepG_none ho hwt hk (l1 τ e ha))
               | enter f args=>
                 refine .enter f args w' (listed P fn a o w) j hn.1 hn.2 ⟨_,_,_,_,rfl⟩ hw1 g1 (evT_listed e1 t1) (fun main b k cs hb hk=>?_) (fun τ e b k cs ha hb hk=>?_)
                 ·subst hb;exact stepG_enter ho hwt hk r1
                 ·exact bare_go_eq (stepG_enter ho hwt hk (l1 τ e ha))
               | _=>exact hn.elim
             | halt h u=>
               unfold SimAt at hsim
               rw[hr]at hsim
               refine .dead fun b k cs hb hk _=>?_
               have hk':(b.kind == CallKind.early)=false:=by simpa using hk
               have hst:=stepG_oper (P:=P) (main:=true) (b:=b) (k:=t++k) (cs:=cs) (w:=mask F w) (rest:=rest) ho hwt
               cases h with
               | panic v=>
                 right
                 refine⟨u,[{v,recovered:=false}],?_⟩
                 rw[List.cons_append,hst]
                 simp only[stepG.apply,Sem.runT_eq,hr,if_true,GStep.bare_after,GStep.bare_go,Frame.raise,Frame.at]
                 rfl
               | stuck s=>
                 left
                 refine⟨.stuck s ((b.at a (.inRegion ops (i::rest)::(t++k))).pos P),u,?_⟩
                 rw[List.cons_append,hst]
                 simp only[stepG.apply,Sem.runT_eq,hr,if_true,GStep.bare_after,GStep.bare_ended]
               | unsupported x=>
                 left
                 by_cases hx:∃g,x= .initOrder g
                 ·obtain⟨g,rfl⟩:=hx
                  obtain⟨o',u',h'⟩:=hE (b.at a (.inRegion ops (i::rest)::(t++k))) cs g u
                  refine⟨o',u',?_⟩
                  rw[List.cons_append,hst]
                  simp only[stepG.apply,Sem.runT_eq,hr,if_true,h',GStep.bare_after,GStep.bare_ended]
                 ·refine⟨.unsupported x ((b.at a (.inRegion ops (i::rest)::(t++k))).pos P),u,?_⟩
                  rw[List.cons_append,hst]
                  cases x<;>first
                   | exact absurd ⟨_,rfl⟩ hx
                   | simp only[stepG.apply,Sem.runT_eq,hr,if_true,GStep.bare_after,GStep.bare_ended]
               | _=>exact hsim.elim
     | inBlock=>cases hc
     | inScope=>cases hc
     | inLoop=>cases hc
     | _=>exact h0.elim
end Mp
end
section
namespace Mp
open Go Go.Conc
variable{P:Program}{F:Fz}{S:FuncId→Bool}{px:Bool}
def UpRun(P:Program)(S:FuncId→Bool)(px:Bool)(fr:Frame):Prop:=
 ∃(b':Frame) (tm:Array Value) (todo:List Item),fr=b'.at ⟨tm,[]⟩ todo∧b'.kind= .normal∧S b'.fn=true∧(∀x∈todo,itemOk P S px x)
def UpWait(P:Program)(S:FuncId→Bool)(px:Bool)(fr:Frame):Prop:=
 ∃(b':Frame) (tm:Array Value) (todo:List Item),fr=b'.at ⟨tm,[]⟩ todo∧b'.kind= .normal∧S b'.fn=true∧(∀x∈todo,itemOk P S px x)∧Waits todo
structure ConfOk(P:Program)(S:FuncId→Bool)(px:Bool)(C:Conf):Prop where
 defers:C.a.defers=[]
 items:∀x∈C.t,itemOk P S px x
 top:∀f us,C.us=f::us→(UpRun P S px f∨UpRet P S f)∧(∀g∈us,UpWait P S px g)∧Waits C.t
inductive COut(P:Program)(F:Fz)(S:FuncId→Bool)(px:Bool)(fn:FuncId)(C:Conf)(w:World):Prop
 | dead (h:∀(b:Frame) (cs:List Frame),b.fn=fn→b.kind≠.early→StepDead P (embF b endK C) (embC b endK cs C) (mask F w))
 | go (C':Conf) (w':World) (es:Array Event) (j:Nat) (hok:ConfOk P S px C') (hw:Wf F w') (hg:Grew F w w' j) (he:∀e∈es,EvT F e)
  (hs:∀(main:Bool) (b:Frame) (k:List Item) (cs:List Frame),b.fn=fn→b.kind≠.early→stepG P main (emb b k cs C) w= .go (emb b k cs C') w' es)
  (hl:∀(τ:Tape) (e:Nat) (b:Frame) (k:List Item) (cs:List Frame),Agree w j τ e→b.fn=fn→b.kind≠.early→(stepG P true (emb b k cs C) (retape (mask F w) τ e)).bare= .go (emb b k cs C') (retape (mask F w') τ (e+j)))
theorem upRun_enter(hC:Closed P S px){f:FuncId}{args:Array Value}(hf:S f=true)(hb:∃fn c,P.funcs[f]? =some fn∧fn.body=some c):UpRun P S px (Frame.enter P f args .normal):=by
 obtain⟨fn,c,h1,h2⟩:=hb
 obtain⟨fn',h1',_,h3⟩:=hC f hf
 rw[h1]at h1'
 cases h1'
 rcases h3 with⟨c',hb',hok⟩|⟨hb',_⟩
 ·rw[h2]at hb'
  cases hb'
  refine⟨base f,_,_,enter_at args h1 h2,rfl,hf,fun x hx=>?_⟩
  simp only[List.mem_singleton]at hx
  subst hx
  exact hok
 ·rw[h2]at hb';cases hb'
theorem results_sims(fn:Func)(tm:Array Value):Sims P F (results fn tm):=by
 exact Sims.of (Go.Proofs.Ytlcgkpapnpdfpaa.results_sims fn tm)
theorem evT_seen{fn:FuncId}{es:Array Event}(he:∀e∈es,EvT F e):∀e∈seen P fn es,EvT F e:=fun e h=>he e (mem_seen h)
theorem conf_step(hC:Closed P S px)(hF:px=true→∀r,F r=none)(hE:NoEarly P)(fn:FuncId){C:Conf}(hok:ConfOk P S px C)(hna:¬Arr C)(w:World)(hw:Wf F w):COut P F S px fn C w:=by
 obtain⟨us,a,t⟩:=C
 cases us with
 | nil=>
   have hne:t≠[]:=fun h=>hna ⟨rfl,.inl h⟩
   have hret:∀t',t≠.code .ret::t':=fun t' h=>hna ⟨rfl,.inr ⟨t',h⟩⟩
   rcases frame_step hC hF hE fn hok.defers hok.items hne hret w hw with h|⟨a',t',w',es,j,hd,hok',hw',hg,he,hs,hl⟩|⟨f,args,w',es,j,hf,hb,ht,hw',hg,he,hs,hl⟩
   ·exact .dead fun b cs hb hk=>h b endK cs hb hk (.inr rfl)
   ·exact .go ⟨[],a',t'⟩ w' es j ⟨hd,hok',fun f us h=>by cases h⟩ hw' hg he (fun main b k cs hb hk=>hs main b k cs hb hk) (fun τ e b k cs ha hb hk=>hl τ e b k cs ha hb hk)
   ·refine .go ⟨[Frame.enter P f args .normal],a,t⟩ w' es j ⟨hok.defers,hok.items,fun g us h=>?_⟩ hw' hg he (fun main b k cs hb hk=>hs main b k cs hb hk) (fun τ e b k cs ha hb hk=>hl τ e b k cs ha hb hk)
    cases h
    exact⟨.inl (upRun_enter hC hf hb),by simp,ht⟩
 | cons f us=>
   obtain⟨hf,hus,hwt⟩:=hok.top f us rfl
   rcases hf with⟨b',tm,todo,rfl,hk',hS',hit⟩|⟨b',tm,todo,rfl,hk',hS'⟩
   ·have hke:b'.kind≠.early:=by rw[hk'];simp
    by_cases hend:todo=[]∨∃t',todo= .code .ret::t'
    ·-- the upper frame's end
     have hst:∀(main:Bool) (cs:List Frame) (w:World),stepG P main (G (b'.at ⟨tm,[]⟩ todo) cs) w= .go (G {b'.at ⟨tm,[]⟩ todo with mode:=.returning} cs) w:=by
      intro main cs w
      rcases hend with rfl|⟨t',rfl⟩
      ·exact stepG_end
      ·exact stepG_ret'
     refine .go ⟨{b'.at ⟨tm,[]⟩ todo with mode:=.returning}::us,a,t⟩ w #[] 0 ⟨hok.defers,hok.items,fun g us' h=>?_⟩ hw (.refl _ _) (by simp) (fun main b k cs _ _=>hst _ _ _) (fun τ e b k cs _ _ _=>bare_go_eq (hst _ _ _))
     cases h
     exact⟨.inr ⟨b',tm,todo,rfl,hk',hS'⟩,hus,hwt⟩
    ·have hne:todo≠[]:=fun h=>hend (.inl h)
     have hret:∀t',todo≠.code .ret::t':=fun t' h=>hend (.inr ⟨t',h⟩)
     rcases frame_step (a:=⟨tm,[]⟩) hC hF hE b'.fn rfl hit hne hret w hw with h|⟨a',t',w',es,j,hd,hok',hw',hg,he,hs,hl⟩|⟨f,args,w',es,j,hf,hb,ht,hw',hg,he,hs,hl⟩
     ·refine .dead fun b cs hb hk=>?_
      have:=h b' [] (us++b.at a (t++endK)::cs) rfl hke (.inl rfl)
      rw[List.append_nil]at this
      exact this
     ·obtain⟨tm',df'⟩:=a'
      simp only at hd
      subst hd
      refine .go ⟨b'.at ⟨tm',[]⟩ t'::us,a,t⟩ w' es j ⟨hok.defers,hok.items,fun g us' h=>?_⟩ hw' hg he (fun main b k cs hb hk=>?_) (fun τ e b k cs ha hb hk=>?_)
      ·cases h
       exact⟨.inl ⟨b',tm',t',rfl,hk',hS',hok'⟩,hus,hwt⟩
      ·have:=hs main b' [] (us++b.at a (t++k)::cs) rfl hke
       rw[List.append_nil,List.append_nil]at this
       exact this
      ·have:=hl τ e b' [] (us++b.at a (t++k)::cs) ha rfl hke
       rw[List.append_nil,List.append_nil]at this
       exact this
     ·refine .go ⟨Frame.enter P f args .normal::b'.at ⟨tm,[]⟩ todo::us,a,t⟩ w' es j ⟨hok.defers,hok.items,fun g us' h=>?_⟩ hw' hg he (fun main b k cs hb hk=>?_) (fun τ e b k cs ha hb hk=>?_)
      ·cases h
       refine⟨.inl (upRun_enter hC hf hb),fun g hg=>?_,hwt⟩
       rcases List.mem_cons.1 hg with rfl|hg
       ·exact⟨b',tm,todo,rfl,hk',hS',hit,ht⟩
       ·exact hus g hg
      ·have:=hs main b' [] (us++b.at a (t++k)::cs) rfl hke
       rw[List.append_nil]at this
       exact this
      ·have:=hl τ e b' [] (us++b.at a (t++k)::cs) ha rfl hke
       rw[List.append_nil]at this
       exact this
   ·-- the upper frame returns
    obtain⟨fn',hfn',_,_⟩:=hC b'.fn hS'
    have hsim:=results_sims (P:=P) (F:=F) fn' tm w hw
    cases hr:(results fn' tm).run P (mask F w)with
    | halt h u=>
      refine .dead fun b cs hb hk=>.inl ?_
      simp only[embF,embC]
      cases us with
      | nil=>
        cases h with
        | stuck s=>exact⟨_,u,by simp only[G,stepG,unwind,Frame.at,hfn',Sem.runT_eq,hr,GStep.bare_after,GStep.bare_ended];rfl⟩
        | _ => exact ⟨.stuck "return: the result variables cannot be read" (({ b'.at ⟨tm, []⟩ todo with mode := .returning } : Frame).pos P), u, by simp only [G, stepG, unwind, Frame.at, hfn', Sem.runT_eq, hr, GStep.bare_after, GStep.bare_ended]⟩
      | cons g us=>
        cases h with
        | stuck s=>exact⟨_,u,by simp only[G,stepG,unwind,Frame.at,hfn',Sem.runT_eq,hr,GStep.bare_after,GStep.bare_ended];rfl⟩
        | _ => exact ⟨.stuck "return: the result variables cannot be read" (({ b'.at ⟨tm, []⟩ todo with mode := .returning } : Frame).pos P), u, by simp only [G, stepG, unwind, Frame.at, hfn', Sem.runT_eq, hr, GStep.bare_after, GStep.bare_ended]⟩
    | ok v u=>
      obtain⟨w',es,j,rfl,r1,e1,t1,g1,hw1,l1⟩:=hsim.ok hr
      have hev:∀e∈seen P b'.fn ((results fn' tm).events P w #[]),EvT F e:=evT_seen fun e h=>t1 e (by rw[e1]at h;simpa using h)
      cases us with
      | nil=>
        obtain⟨ops,i,rest,t0,rfl⟩:=hwt
        refine .go ⟨[],a.put ((ops[i]?).bind (·.dst)) v,.inRegion ops rest::t0⟩ w' _ j ⟨by rw[put_defers];exact hok.defers,fun x hx=>?_,fun g us h=>by cases h⟩ hw1 g1 hev (fun main b k cs hb hk=>?_) (fun τ e b k cs ha hb hk=>?_)
        ·rcases List.mem_cons.1 hx with rfl|hx
         ·exact hok.items (.inRegion ops (i::rest)) (List.mem_cons_self ..)
         ·exact hok.items x (List.mem_cons_of_mem _ hx)
        ·refine(stepG_ret_ok hk' hfn' r1).trans ?_
         rw[List.cons_append,Frame.finish_at]
         rfl
        ·have:=stepG_ret_ok (main:=true) (todo:=todo) (c:=b.at a (.inRegion ops (i::rest)::(t0++k))) (cs:=cs) hk' hfn' (l1 τ e ha)
         rw[Frame.finish_at]at this
         exact bare_go_eq this
      | cons g us=>
        obtain⟨b'',tm'',todo'',rfl,hk'',hS'',hit'',ops,i,rest,t0,rfl⟩:=hus g (List.mem_cons_self ..)
        obtain⟨tmx,hx⟩:∃tmx,(Act.mk tm'' []).put ((ops[i]?).bind (·.dst)) v=⟨tmx,[]⟩:=put_nil _ _ _
        refine .go ⟨b''.at ⟨tmx,[]⟩ (.inRegion ops rest::t0)::us,a,t⟩ w' _ j ⟨hok.defers,hok.items,fun g us' h=>?_⟩ hw1 g1 hev (fun main b k cs hb hk=>?_) (fun τ e b k cs ha hb hk=>?_)
        ·cases h
         refine⟨.inl ⟨b'',tmx,_,rfl,hk'',hS'',fun x hx=>?_⟩,fun g hg=>hus g (List.mem_cons_of_mem _ hg),hwt⟩
         rcases List.mem_cons.1 hx with rfl|hx
         ·exact hit'' (.inRegion ops (i::rest)) (List.mem_cons_self ..)
         ·exact hit'' x (List.mem_cons_of_mem _ hx)
        ·refine(stepG_ret_ok hk' hfn' r1).trans ?_
         rw[Frame.finish_at,hx]
         rfl
        ·have:=stepG_ret_ok (main:=true) (todo:=todo) (c:=b''.at ⟨tm'',[]⟩ (.inRegion ops (i::rest)::t0)) (cs:=us++b.at a (t++k)::cs) hk' hfn' (l1 τ e ha)
         rw[Frame.finish_at,hx]at this
         exact bare_go_eq this
end Mp
end
section
namespace Mp
open Go Go.Conc
variable{P:Program}{F:Fz}{S:FuncId→Bool}{px:Bool}
theorem lm_fin{fn:FuncId}{Q:Exit→Act→World→Prop}{C:Conf}{u:World}(hok:ConfOk P S px C)(h:Fin fn Q (LM fn C u)):C.us=[]∧C.t=[]∧Q .normal C.a u:=by
 rcases h with⟨a,v,h1,hq⟩|⟨a,v,todo,h1,_⟩
 ·obtain⟨h2,h3,h4⟩:=lone_inj h1
  have hus:=embC_one h3
  unfold embF at h2
  rw[hus]at h2
  simp only[Frame.at,Frame.mk.injEq]at h2
  obtain⟨_,h5,h6,h7,_⟩:=h2
  have h8:C.t=[]:=by
   have:=congrArg List.length h6
   simp at this
   exact this
  have h9:C.a=a:=by
   cases hC:C.a
   cases a
   rw[hC]at h5 h7
   simp only at h5 h7
   rw[h5,h7]
  exact⟨hus,h8,by rw[h9,h4];exact hq⟩
 ·obtain⟨h2,h3,_⟩:=lone_inj h1
  have hus:=embC_one h3
  unfold embF at h2
  rw[hus]at h2
  simp[Frame.at]at h2
theorem dead_fin{fn:FuncId}{Q:Exit→Act→World→Prop}{C:Conf}{u:World}(hok:ConfOk P S px C)(hna:¬Arr C)(h:StepDead P (embF (base fn) endK C) (embC (base fn) endK [trap] C) u):
 ∀n m',runN P n (LM fn C u)= .next m'→¬Fin fn Q m':=by
 intro n m' hr hf
 cases n with
 | zero=>
   simp only[runN,Stepped.next.injEq]at hr
   subst hr
   obtain⟨h1,h2,_⟩:=lm_fin hok hf
   exact hna ⟨h1,.inl h2⟩
 | succ n=>
   rcases h with⟨o,v,h⟩|⟨v,chain,h⟩
   ·exact run_ended (step_lone_ended h) _ _ hr
   ·have hs:step P (LM fn C u)= .next (lone {embF (base fn) endK C with mode:=.panicking chain} (embC (base fn) endK [trap] C) v):=step_lone_go h
    rw[run_succ hs]at hr
    refine panM_fin ?_ n m' hr hf
    refine⟨_,_,_,rfl,⟨chain,rfl⟩,.inl ?_⟩
    obtain⟨us,a,t⟩:=C
    cases us with
    | nil=>exact⟨hok.defers,[],rfl,by simp⟩
    | cons f us=>
      obtain⟨hf',hus,_⟩:=hok.top f us rfl
      refine⟨?_,us++[(base fn).at a (t++endK)],by simp[embC],fun g hg=>?_⟩
      ·rcases hf' with⟨b',tm,todo,rfl,_⟩|⟨b',tm,todo,rfl,_⟩<;>rfl
      ·rcases List.mem_append.1 hg with hg|hg
       ·obtain⟨b',tm,todo,rfl,_⟩:=hus g hg
        exact⟨rfl,rfl⟩
       ·simp only[List.mem_singleton]at hg
        subst hg
        exact⟨rfl,hok.defers⟩
theorem arr_fin{fn:FuncId}{Q:Exit→Act→World→Prop}{C:Conf}{u:World}(hok:ConfOk P S px C)(ha:Arr C){n:Nat}{m':Machine}(hr:runN P n (LM fn C u)= .next m')(hf:Fin fn Q m'):
 (C.t=[]∧Q .normal C.a u)∨((∃t',C.t= .code .ret::t')∧Q .ret C.a u):=by
 obtain⟨us,a,t⟩:=C
 obtain⟨h1,h2⟩:=ha
 simp only at h1 h2
 subst h1
 cases n with
 | zero=>
   simp only[runN,Stepped.next.injEq]at hr
   subst hr
   obtain⟨_,h3,h4⟩:=lm_fin hok hf
   exact .inl ⟨h3,h4⟩
 | succ n=>
   rcases h2 with rfl|⟨t',rfl⟩
   ·exfalso
    have:∃o x,step P (LM fn ⟨[],a,[]⟩ u)= .ended o x:=by
     refine ⟨.unsupported (Unsupported.elab "") (((base fn).at a endK).pos P), u, step_lone_ended ?_⟩
     simp only[embF,embC,List.nil_append,stepG,stepG.exec,endK,Frame.at]
     rfl
    obtain⟨o,x,hx⟩:=this
    exact run_ended hx _ _ hr
   ·have hs:step P (LM fn ⟨[],a,.code .ret::t'⟩ u)= .next (lone {(base fn).at a (.code .ret::(t'++endK))with mode:=.returning} [trap] u):=step_ret
    rw[run_succ hs]at hr
    right
    refine⟨⟨t',rfl⟩,?_⟩
    cases n with
    | zero=>
      simp only[runN,Stepped.next.injEq]at hr
      subst hr
      rcases hf with⟨a',v,h3,_⟩|⟨a',v,todo,h3,hq,_⟩
      ·obtain⟨h4,_⟩:=lone_inj h3
       simp[Frame.at]at h4
      ·obtain⟨h4,_,h5⟩:=lone_inj h3
       simp only[Frame.at,Frame.mk.injEq]at h4
       obtain⟨_,h6,_,h7,_⟩:=h4
       have h9:a=a':=by cases a;cases a';simp only at h6 h7;rw[h6,h7]
       rw[h9,h5];exact hq
    | succ n=>
      exfalso
      rcases ret_step (P:=P) fn a (.code .ret::(t'++endK)) u hok.defers with⟨x,hx⟩|⟨o,x,hx⟩
      ·rw[run_succ hx]at hr
       cases n with
       | zero=>
         simp only[runN,Stepped.next.injEq]at hr
         subst hr
         rcases hf with⟨a',v,h3,_⟩|⟨a',v,todo,h3,_⟩
         ·exact absurd (lone_inj h3).2.1 (by simp)
         ·exact absurd (lone_inj h3).2.1 (by simp)
       | succ n=>
         obtain⟨o,y,hy⟩:=trap_ended (P:=P) x
         exact run_ended hy _ _ hr
      ·exact run_ended hx _ _ hr
end Mp
end
section
namespace Mp
open Go Go.Conc
variable{P:Program}{F:Fz}{S:FuncId→Bool}{px:Bool}
def GuarE(F:Fz)(w w':World)(es:Array Event):Prop:=(∃j,Grew F w w' j)∧∀e∈es,EvT F e
inductive Own(P:Program)(main:Bool)(F:Fz)(Stop:Goroutine→World→Prop):Goroutine→World→Prop
 | stop {g:Goroutine} {w:World} (h:∀d,Stop g (w.at d)):Own P main F Stop g w
 | step' {g:Goroutine} {w:World} (hr:g.status= .running) (g':Nat→Goroutine) (w':Nat→World) (es:Nat→Array Event) (hs:∀d,stepG P main g (w.at d)= .go (g' d) (w' d) (es d)) (hg:∀d,GuarE F (w.at d) (w' d) (es d))
  (h:∀d,Own P main F Stop (g' d) (w' d)):Own P main F Stop g w
theorem Own.step{main:Bool}{Stop:Goroutine→World→Prop}{g:Goroutine}{w:World}(hr:g.status= .running)(h:∀d,∃g' w' es,stepG P main g (w.at d)= .go g' w' es∧GuarE F (w.at d) w' es∧Own P main F Stop g' w'):Own P main F Stop g w:=
 .step' hr (fun d=>(h d).choose) (fun d=>(h d).choose_spec.choose) (fun d=>(h d).choose_spec.choose_spec.choose) (fun d=>(h d).choose_spec.choose_spec.choose_spec.1) (fun d=>(h d).choose_spec.choose_spec.choose_spec.2.1) (fun d=>(h d).choose_spec.choose_spec.choose_spec.2.2)
theorem Own.bind{main:Bool}{Stop Stop':Goroutine→World→Prop}{g:Goroutine}{w:World}(h:Own P main F Stop g w)(hk:∀(g:Goroutine) (w:World),(∀d,Stop g (w.at d))→Own P main F Stop' g w):Own P main F Stop' g w:=by
 induction h with
 | stop h=>exact hk _ _ h
 | step' hr g' w' es hs hg _ ih=>exact .step' hr g' w' es hs hg ih
structure St(P:Program)(F:Fz)(S:FuncId→Bool)(px:Bool)(fn:FuncId)(C:Conf)(w:World)(C':Conf)(w':World)(es:Array Event)(j:Nat):Prop where
 hok:ConfOk P S px C'
 hw:Wf F w'
 hg:Grew F w w' j
 he:∀e∈es,EvT F e
 hs:∀(main:Bool) (b:Frame) (k:List Item) (cs:List Frame),b.fn=fn→b.kind≠.early→stepG P main (emb b k cs C) w= .go (emb b k cs C') w' es
 hl:∀(τ:Tape) (e:Nat),Agree w j τ e→step P (LM fn C (retape (mask F w) τ e))= .next (LM fn C' (retape (mask F w') τ (e+j)))
theorem st_of(fn:FuncId){C:Conf}{w:World}(h:COut P F S px fn C w)(hnd:¬StepDead P (embF (base fn) endK C) (embC (base fn) endK [trap] C) (mask F w)):∃C' w' es j,St P F S px fn C w C' w' es j:=by
 cases h with
 | dead h=>exact absurd (h (base fn) [trap] rfl (by simp[base])) hnd
 | go C' w' es j hok hw hg he hs hl=>exact⟨C',w',es,j,hok,hw,hg,he,hs,fun τ e ha=>step_lone_go (hl τ e (base fn) endK [trap] ha rfl (by simp[base]))⟩
inductive Tr(P:Program)(F:Fz)(S:FuncId→Bool)(px:Bool)(fn:FuncId)(Q:Exit→Act→World→Prop):Conf→World→Prop
 | arr {C:Conf} {w:World} (hok:ConfOk P S px C) (hw:Wf F w) (h:GoalQ Q F C w):Tr P F S px fn Q C w
 | step' {C:Conf} {w:World} (C':Tape→Nat→Conf) (w':Tape→Nat→World) (hs:∀τ e,∃es j,St P F S px fn C (retape w τ e) (C' τ e) (w' τ e) es j) (h:∀τ e,Tr P F S px fn Q (C' τ e) (w' τ e)):Tr P F S px fn Q C w
theorem Tr.step{fn:FuncId}{Q:Exit→Act→World→Prop}{C:Conf}{w:World}(h:∀τ e,∃C' w' es j,St P F S px fn C (retape w τ e) C' w' es j∧Tr P F S px fn Q C' w'):Tr P F S px fn Q C w:=
 .step' (fun τ e=>(h τ e).choose) (fun τ e=>(h τ e).choose_spec.choose) (fun τ e=>⟨(h τ e).choose_spec.choose_spec.choose,(h τ e).choose_spec.choose_spec.choose_spec.choose,(h τ e).choose_spec.choose_spec.choose_spec.choose_spec.1⟩)
  (fun τ e=>(h τ e).choose_spec.choose_spec.choose_spec.choose_spec.2)
structure Node(P:Program)(F:Fz)(S:FuncId→Bool)(px:Bool)(fn:FuncId)(Q:Exit→Act→World→Prop)(C0:Conf)(w0:World)where
 C:Conf
 w:World
 p:Tape
 E:Nat
 k:Nat
 ok:ConfOk P S px C
 wf:Wf F w
 bad:¬Tr P F S px fn Q C w
 run:∀τ:Tape,(∀i q,i<E→τ i q=p i q)→runN P k (LM fn C0 (retape (mask F w0) τ 0))= .next (LM fn C (retape (mask F w) τ E))
theorem node_reach{fn:FuncId}{Q:Exit→Act→World→Prop}{C0:Conf}{w0:World}(H:∀τ,∃n m,runN P n (LM fn C0 (retape (mask F w0) τ 0))= .next m∧Fin fn Q m)(N:Node P F S px fn Q C0 w0)(τ:Tape)
 (hτ:∀i q,i<N.E→τ i q=N.p i q):∃n m,runN P n (LM fn N.C (retape (mask F N.w) τ N.E))= .next m∧Fin fn Q m:=by
 obtain⟨n,m,hn,hf⟩:=H τ
 have hk:=N.run τ hτ
 rcases Nat.lt_or_ge n N.k with h|h
 ·exfalso
  have h2:N.k=n+(N.k - n - 1+1):=by omega
  rw[h2]at hk
  exact fin_stop hf _ (runN_split hn hk) _ _ rfl
 ·have h2:n=N.k+(n - N.k):=by omega
  rw[h2]at hn
  exact⟨n - N.k,m,runN_split hk hn,hf⟩
theorem node_next(hC:Closed P S px)(hF:px=true→∀r,F r=none)(hE:NoEarly P){fn:FuncId}{Q:Exit→Act→World→Prop}{C0:Conf}{w0:World}(H:∀τ,∃n m,runN P n (LM fn C0 (retape (mask F w0) τ 0))= .next m∧Fin fn Q m)
 (N:Node P F S px fn Q C0 w0):∃N':Node P F S px fn Q C0 w0,N'.k=N.k+1∧N.E≤N'.E∧∀i q,i<N.E→N'.p i q=N.p i q:=by
 have hna:¬Arr N.C:=by
  intro ha
  obtain⟨n,m,hn,hf⟩:=node_reach H N N.p (fun _ _ _=>rfl)
  refine N.bad (.arr N.ok N.wf ⟨ha.1,?_⟩)
  rcases arr_fin N.ok ha hn hf with⟨h1,h2⟩|⟨h1,h2⟩
  ·exact .inl ⟨h1,_,_,h2⟩
  ·exact .inr ⟨h1,_,_,h2⟩
 obtain⟨σ,e0,hbad⟩:∃σ e0,∀C' w' es j,St P F S px fn N.C (retape N.w σ e0) C' w' es j→¬Tr P F S px fn Q C' w':=by
  apply Classical.byContradiction
  intro hno
  refine N.bad (.step fun τ e=>?_)
  apply Classical.byContradiction
  intro h2
  exact hno ⟨τ,e,fun C' w' es j hst htr=>h2 ⟨C',w',es,j,hst,htr⟩⟩
 have e1:∀q i,(fun i q=>if i<N.E then N.p i q else σ (e0+(i - N.E)) q:Tape) (N.E+i) q=σ (e0+i) q:=by
  intro q i
  simp only[if_neg (show ¬(N.E+i<N.E)by omega),Nat.add_sub_cancel_left]
 obtain⟨n,m,hn,hf⟩:=node_reach H N (fun i q=>if i<N.E then N.p i q else σ (e0+(i - N.E)) q) (fun i q hi=>by simp only[if_pos hi])
 generalize hτ2:(fun i q=>if i<N.E then N.p i q else σ (e0+(i - N.E)) q:Tape)=τ2 at e1 hn
 have hstep2:=conf_step hC hF hE fn N.ok hna (retape N.w τ2 N.E) (N.wf.retape _ _)
 have hnd2:¬StepDead P (embF (base fn) endK N.C) (embC (base fn) endK [trap] N.C) (mask F (retape N.w τ2 N.E)):=fun hd=>dead_fin N.ok hna hd n m hn hf
 obtain⟨C2,w2,es2,j2,hst2⟩:=st_of fn hstep2 hnd2
 have hloc:=hst2.hl σ e0 (fun i q hi=>(e1 q i).symm)
 have hstep1:=conf_step hC hF hE fn N.ok hna (retape N.w σ e0) (N.wf.retape _ _)
 have hnd1:¬StepDead P (embF (base fn) endK N.C) (embC (base fn) endK [trap] N.C) (mask F (retape N.w σ e0)):=by
  intro hd
  have hm:(LM fn N.C (retape (mask F (retape N.w τ2 N.E)) σ e0))=lone (embF (base fn) endK N.C) (embC (base fn) endK [trap] N.C) (mask F (retape N.w σ e0)):=rfl
  rw[hm]at hloc
  rcases hd with⟨o,v,h⟩|⟨v,chain,h⟩
  ·rw[step_lone_ended h]at hloc;cases hloc
  ·have h3:=(step_lone_go h).symm.trans hloc
   simp only[Stepped.next.injEq]at h3
   have h4:=(lone_inj h3).1
   have h5:=congrArg Frame.mode h4
   simp only at h5
   have h6:=hst2.hok
   unfold embF at h5
   split at h5
   ·cases h5
   ·rename_i f us hus
    rcases(h6.top f us hus).1 with⟨b',tm,todo,rfl,_⟩|⟨b',tm,todo,rfl,_⟩<;>cases h5
 obtain⟨C1,w1,es1,j1,hst1⟩:=st_of fn hstep1 hnd1
 refine⟨⟨C1,w1,τ2,N.E+j1,N.k+1,hst1.hok,hst1.hw,hbad _ _ _ _ hst1,fun τ ha=>?_⟩,rfl,Nat.le_add_right _ _,fun i q hi=>?_⟩
 ·have hk:=N.run τ (fun i q hi=>by rw[ha i q (by omega),← hτ2];simp only[if_pos hi])
  rw[runN_add,hk]
  have:=hst1.hl τ N.E (fun i q hi=>by rw[ha (N.E+i) q (by omega)];exact e1 q i)
  simp only[runN]
  rw[show LM fn N.C (retape (mask F N.w) τ N.E)=LM fn N.C (retape (mask F (retape N.w σ e0)) τ N.E)from rfl,this]
 ·show τ2 i q=_
  rw[← hτ2];simp only[if_pos hi]
open Classical in
theorem tree(hC:Closed P S px)(hF:px=true→∀r,F r=none)(hE:NoEarly P){fn:FuncId}{Q:Exit→Act→World→Prop}{C0:Conf}{w0:World}(hok:ConfOk P S px C0)(hw:Wf F w0)
 (H:∀τ,∃n m,runN P n (LM fn C0 (retape (mask F w0) τ 0))= .next m∧Fin fn Q m):Tr P F S px fn Q C0 w0:=by
 apply Classical.byContradiction
 intro hbad
 let N0:Node P F S px fn Q C0 w0:=⟨C0,w0,fun _ _=>0,0,0,hok,hw,hbad,fun τ _=>rfl⟩
 let nx:Node P F S px fn Q C0 w0→Node P F S px fn Q C0 w0:=fun N=>Classical.choose (node_next hC hF hE H N)
 have hnx:∀N,(nx N).k=N.k+1∧N.E≤(nx N).E∧∀i q,i<N.E→(nx N).p i q=N.p i q:=fun N=>Classical.choose_spec (node_next hC hF hE H N)
 let seq:Nat→Node P F S px fn Q C0 w0:=fun n=>Nat.rec N0 (fun _ N=>nx N) n
 have hk:∀n,(seq n).k=n:=by
  intro n
  induction n with
  | zero=>rfl
  | succ n ih=>have:=(hnx (seq n)).1;rw[ih]at this;exact this
 have hmono:∀d n,(seq n).E≤(seq (n+d)).E∧∀i q,i<(seq n).E→(seq (n+d)).p i q=(seq n).p i q:=by
  intro d
  induction d with
  | zero=>intro n;exact⟨Nat.le_refl _,fun _ _ _=>rfl⟩
  | succ d ih=>
    intro n
    obtain⟨h1,h2⟩:=ih n
    obtain⟨_,h3,h4⟩:=hnx (seq (n+d))
    exact⟨Nat.le_trans h1 h3,fun i q hi=>(h4 i q (by omega)).trans (h2 i q hi)⟩
 let L:Tape:=fun i q=>if h:∃m,i<(seq m).E then(seq (Classical.choose h)).p i q else 0
 have hL:∀m i q,i<(seq m).E→L i q=(seq m).p i q:=by
  intro m i q hi
  have hex:∃m,i<(seq m).E:=⟨m,hi⟩
  show(if h:∃m,i<(seq m).E then(seq (Classical.choose h)).p i q else 0)=_
  rw[dif_pos hex]
  have hc:=Classical.choose_spec hex
  generalize Classical.choose hex=m' at hc
  rcases Nat.le_total m m' with h|h
  ·obtain⟨d,rfl⟩:=Nat.exists_eq_add_of_le h
   exact(hmono d m).2 i q hi
  ·obtain⟨d,rfl⟩:=Nat.exists_eq_add_of_le h
   exact((hmono d m').2 i q hc).symm
 obtain⟨n,m,hn,hf⟩:=H L
 have hr:=(seq (n+1)).run L (hL (n+1))
 rw[hk (n+1)]at hr
 exact fin_stop hf 0 (runN_split hn hr) _ _ rfl
def Gd(F:Fz)(w w':World):Prop:=Grew F (w.at w'.drawn) w' 0
theorem Gd.refl(F:Fz)(w:World):Gd F w w:=Grew.refl F w
theorem Gd.of_grew{w w':World}{j d:Nat}(h:Grew F (w.at d) w' j):Gd F w w':=⟨h.tape,rfl,h.os,h.output,h.size,h.objs,h.keep⟩
theorem Gd.trans{a b c:World}(h:Gd F a b)(k:Gd F b c):Gd F a c:=by
 have:=Grew.trans (a:=a.at c.drawn) (b:=b.at c.drawn) (i:=0) ⟨h.tape,rfl,h.os,h.output,h.size,h.objs,h.keep⟩ k
 exact⟨this.tape,rfl,this.os,this.output,this.size,this.objs,this.keep⟩
theorem own_of_tree{fn:FuncId}{Q:Exit→Act→World→Prop}{main:Bool}{b:Frame}{k:List Item}{cs:List Frame}{Stop:Goroutine→World→Prop}(hb:b.fn=fn)(hk:b.kind≠.early){C0:Conf}{w0 w00:World}
 (hfin:∀C w,GoalQ Q F C w→ConfOk P S px C→Wf F w→Gd F w00 w→Own P main F Stop (emb b k cs C) w) (h:Tr P F S px fn Q C0 w0) (h0:Gd F w00 w0):
 Own P main F Stop (emb b k cs C0) w0:=by
 induction h with
 | @arr C w hok hw hq=>exact hfin _ _ hq hok hw h0
 | @step' C w C' w' hs _ ih=>
   refine .step rfl fun d=>?_
   obtain⟨es,j,hst⟩:=hs w.tape d
   exact⟨_,_,es,hst.hs main b k cs hb hk,⟨⟨j,hst.hg⟩,hst.he⟩,ih w.tape d (h0.trans (Gd.of_grew hst.hg))⟩
theorem lift(hC:Closed P S px)(hF:px=true→∀r,F r=none)(hE:NoEarly P){c:Code}(hc:codeOk P S px c=true){Q:Exit→Act→World→Prop}{a:Act}{w:World}(hw:Wf F w)(hd:a.defers=[])
 (hQ:∀e a w,Q e a w→e= .normal∨(e= .ret∧a.defers=[])) (H:∀τ e,c.wp P Q a (retape (mask F w) τ e)) {main:Bool} {b:Frame} {k:List Item} {cs:List Frame} {Stop:Goroutine→World→Prop} (hk:b.kind≠.early)
 (hn:∀a' w' τ e,Q .normal a' (retape (mask F w') τ e)→Wf F w'→Gd F w w'→Own P main F Stop (G (b.at a' k) cs) w')
 (hr:∀a' w' τ e t',Q .ret a' (retape (mask F w') τ e)→Wf F w'→Gd F w w'→Own P main F Stop (G {b.at a' (.code .ret::t')with mode:=.returning} cs) w'):
 Own P main F Stop (G (b.at a (.code c::k)) cs) w:=by
 have hok:ConfOk P S px ⟨[],a,[.code c]⟩:=⟨hd,fun x hx=>by simp only[List.mem_singleton]at hx;subst hx;exact hc,fun f us h=>by cases h⟩
 have ht:Tr P F S px b.fn Q ⟨[],a,[.code c]⟩ w:=tree hC hF hE hok hw fun τ=>arrives_fin hQ (H τ 0)
 refine own_of_tree (b:=b) (k:=k) (cs:=cs) rfl hk (w00:=w) (fun C w' hg hok' hw' hgd=>?_) ht (.refl _ _)
 obtain⟨us,a',t⟩:=C
 obtain⟨hus,hg⟩:=hg
 simp only at hus
 subst hus
 rcases hg with⟨h1,τ,e,h2⟩|⟨⟨t',h1⟩,τ,e,h2⟩
 ·simp only at h1
  subst h1
  exact hn a' w' τ e h2 hw' hgd
 ·simp only at h1
  subst h1
  refine .step rfl fun d=>⟨_,_,#[],stepG_ret',⟨⟨0,.refl _ _⟩,by simp⟩,?_⟩
  have h3:Gd F w' (w'.at d):=Gd.of_grew (d:=d) (Grew.refl F (w'.at d))
  exact hr a' (w'.at d) τ e _ h2 ⟨hw'.own⟩ (hgd.trans h3)
end Mp
end
section
namespace Mp
open Go.ConcN (sumTo upd sumTo_upd upd_ne upd_same)
variable{P:Program}{F:Fz}
theorem evT_loud{e:Event}(h:EvT F e):e.loc≠.mark .disable∧e.loc≠.mark .enable:=by
 constructor
 ·intro h1
  rcases h.2 _ h1 with h|⟨f,h⟩<;>cases h
 ·intro h1
  rcases h.2 _ h1 with h|⟨f,h⟩<;>cases h
theorem past_own{B:Nat}{t:Trace}(h:Past NoShun B t){es:Array Event}(he:∀e∈es,EvT F e)(fn:FuncId)(pos:String):∃B',Past NoShun B' (t++MemOp.ofEvents 0 fn pos es):=by
 obtain⟨B',h1,h2⟩:=low_all es B
 exact⟨B',(h.mono h1).own fun e hm=>⟨fun _ _ hs=>hs.elim,(evT_loud (he e hm)).1,(evT_loud (he e hm)).2,h2 e hm⟩⟩
variable{A:Anchor}
theorem _root_.Go.Proofs.Ytlcgkpapnpdfpaa.Anchor.Holds.grewM{w w':World}{j:Nat}(h:A.Holds w)(hb:A.b=0)(hg:Grew F w w' j):A.Holds w':=
 ⟨hg.os.trans h.os,hg.output.trans h.output,hg.tape.trans h.tape,by rw[hb];exact Nat.zero_le _,fun r o hr=>by omega⟩
theorem Own.at{main:Bool}{Stop:Goroutine→World→Prop}{g:Goroutine}{w:World}(h:Own P main F Stop g w)(d:Nat):Own P main F Stop g (w.at d):=by
 cases h with
 | stop h=>exact .stop h
 | step' hr g' w' es hs hg h=>exact .step' hr g' w' es hs hg h
theorem Own.status{main:Bool}{Stop:Goroutine→World→Prop}{g:Goroutine}{w:World}(h:Own P main F Stop g w):(∀d,Stop g (w.at d))∨g.status= .running:=by
 cases h with
 | stop h=>exact .inl h
 | step' hr g' w' es hs hg h=>exact .inr hr
theorem bes_ownM(hb:A.b=0){Stop:Goroutine→World→Prop}{g:Goroutine}{w:World}(h:Own P true F Stop g w):Bes A P (fun g w=>∃w0 d,w=World.at w0 d∧∀d,Stop g (w0.at d)) g w:=by
 induction h with
 | @stop g w h=>exact .stop ⟨w,w.drawn,rfl,h⟩
 | @step' g w hrun g' w' es hs hg hown ih=>
   have key:∀(M:Nat) (w1:World) (gs:Array Goroutine) (sl:Option (Nat×Nat)) (T:Trace) (q:Nat→Nat) (B:Nat),(∃d,w1=w.at d)→sumTo gs.size q≤M→gs[0]? =some g→Leavers P T gs q→Past NoShun B T→A.Holds w1→
    ∃(N:Nat) (gs':Array Goroutine) (g':Goroutine) (w':World) (sl':Option (Nat×Nat)) (T':Trace) (q':Nat→Nat) (B':Nat),
     runNT P N (crowd gs w1 sl) T=(.next (crowd gs' w' sl'),T')∧gs'[0]? =some g'∧(∃w0 d,w'=World.at w0 d∧∀d,Stop g' (w0.at d))∧Leavers P T' gs' q'∧Past NoShun B' T'∧A.Holds w':=by
    intro M
    induction M with
    | zero=>?_
    | succ M ihM=>?_
    all_goals
     intro w1 gs sl T q B hw1 hM h0 hL hP hA
     obtain⟨d0,rfl⟩:=hw1
     have haw:∀g∈gs,awake g:=by
      intro x hx
      obtain⟨i,hi,rfl⟩:=Array.mem_iff_getElem.1 hx
      rcases Nat.eq_zero_or_pos i with rfl|hpos
      ·have:gs[0]=g:=by simpa [Array.getElem?_eq_getElem hi]using h0
       rw[this];exact awake_of (.inl hrun)
      ·exact awake_of ((hL.old i _ hpos (Array.getElem?_eq_getElem hi)).status.elim .inl fun x=>.inr (.inr x))
     obtain⟨i,x,d,sl',hi,hx,hst⟩:=crowd_pick (P:=P) (w:=w.at d0) (sl:=sl) haw ⟨0,g,h0,hrun⟩
     rcases Nat.eq_zero_or_pos i with rfl|hpos
     ·obtain rfl:x=g:=by rw[h0]at hi;exact(Option.some.inj hi).symm
      have hgo:=hs d
      have hrunT:=runT_crowd_go (P:=P) (sl:=sl') (i:=0) hi (show stepG P (0 == 0) x ((w.at d0).at d)=_ from hgo)
      have hlt:0<gs.size:=(alt h0)
      obtain⟨B1,hP1⟩:=past_own hP (hg d).2 x.frame.fn x.frame.place
      obtain⟨N,gs',a'',w'',sl'',t',q',B',hr,h0',hS,hL',hP',hA'⟩:=ih d ((gs.map (woken P x (g' d) (w' d))).setIfInBounds 0 (g' d)) sl' (T++MemOp.ofEvents 0 x.frame.fn x.frame.place (es d)) q B1 (by simp[hlt])
       ⟨fun j y hj hy=>by
        have hne:0≠j:=by omega
        rw[Array.getElem?_setIfInBounds_ne hne,Array.getElem?_map]at hy
        obtain⟨z,hz,rfl⟩:=Option.map_eq_some_iff.1 hy
        have hq:=hL.old j z hj hz
        rw[woken_quitsD hq,Deaf_other T (by omega) _ (fun op hop=>by obtain⟨e,_,rfl⟩:=Go.Conc.mem_ofEvents hop;rfl)]
        exact hq,fun j hj=>by
        rw[Deaf_other T (g':=0) (by simp at hj;omega) _ (fun op hop=>by obtain⟨e,_,rfl⟩:=Go.Conc.mem_ofEvents hop;rfl)]
        exact hL.above j (by simpa using hj)⟩ hP1 (((hA.at d).grewM hb (hg d).1.choose_spec))
      exact⟨N+1,gs',a'',w'',sl'',t',q',B',by simp only[runNT,hst,hrunT];exact hr,h0',hS,hL',hP',hA'⟩
     ·have hq:=hL.old i x hpos hi
      have hi0:(i == 0)=false:=by simp;omega
      have hlt:i<gs.size:=(alt hi)
      cases hqi:q i with
      | zero=>rw[hqi]at hq;rw[hq.1]at hx;cases hx
      | succ k=>
        rw[hqi]at hq
        rcases hq with⟨hf,_⟩|⟨_,x',es',hm,hstp,hq'⟩
        ·rw[hf]at hx;cases hx
        have hsum:sumTo gs.size (Go.ConcN.upd q i k)+(k+1)=sumTo gs.size q+k:=by
         have:=sumTo_upd q k id hlt
         simpa [hqi]using this
        first
        | (exfalso;omega)
        | (have hrunT:=runT_crowd_go (P:=P) (sl:=sl') (i:=i) hi (by rw[hi0];exact hstp ((w.at d0).at d))
           have hsz:((gs.map (woken P x x' ((w.at d0).at d))).setIfInBounds i x').size=gs.size:=by simp
           obtain⟨N,gs',a'',w'',sl'',t',q',B',hr,h0',hS,hL',hP',hA'⟩:=ihM ((w.at d0).at d) ((gs.map (woken P x x' ((w.at d0).at d))).setIfInBounds i x') sl' (T++MemOp.ofEvents i x.frame.fn x.frame.place es') (Go.ConcN.upd q i k) B ⟨d,rfl⟩ (by rw[hsz];omega)
            (by
              have hne:i≠0:=by omega
              rw[Array.getElem?_setIfInBounds_ne hne,Array.getElem?_map,h0]
              simp[woken_run hrun])
            ⟨fun j y hj hy=>by
             by_cases hji:i=j
             ·subst hji
              rw[Array.getElem?_setIfInBounds_self_of_lt (by simpa using hlt)]at hy
              obtain rfl:=Option.some.inj hy
              rw[Go.ConcN.upd_same,Deaf_own]
              exact hq'
             ·rw[Array.getElem?_setIfInBounds_ne hji,Array.getElem?_map]at hy
              obtain⟨z,hz,rfl⟩:=Option.map_eq_some_iff.1 hy
              have hqj:=hL.old j z hj hz
              rw[woken_quitsD hqj,Go.ConcN.upd_ne q k (Ne.symm hji),Deaf_other T hji _ (fun op hop=>by obtain⟨e,_,rfl⟩:=Go.Conc.mem_ofEvents hop;rfl)]
              exact hqj,fun j hj=>by
             rw[Deaf_other T (g':=i) (by simp at hj;omega) _ (fun op hop=>by obtain⟨e,_,rfl⟩:=Go.Conc.mem_ofEvents hop;rfl)]
             exact hL.above j (by simpa using hj)⟩
            (hP.mute (by omega) hm) (hA.at d)
           exact⟨N+1,gs',a'',w'',sl'',t',q',B',by simp only[runNT,hst,hrunT];exact hr,h0',hS,hL',hP',hA'⟩)
   exact fun gs sl T q B h0 hL hP hA=>key _ w gs sl T q B ⟨w.drawn,rfl⟩ (Nat.le_refl _) h0 hL hP hA
theorem own_go{main:Bool}{Stop:Goroutine→World→Prop}{g g':Goroutine}{w:World}(hr:g.status= .running)(hs:∀d,stepG P main g (w.at d)= .go g' (w.at d) #[])(h:Own P main F Stop g' w):Own P main F Stop g w:=
 .step hr fun d=>⟨g',w.at d,#[],hs d,⟨⟨0,Grew.refl F _⟩,by simp⟩,h.at d⟩
theorem own_leave{main:Bool}{b:Frame}{a:Act}{cs:List Frame}{fn:Func}{todo:List Item}{c:Frame}{v:Value}{w:World}{Stop:Goroutine→World→Prop}(hn:b.kind= .normal)(hd:a.defers=[])(hf:P.funcs[b.fn]? =some fn)
 (hr:∀d,(results fn a.tmps).run P (w.at d)= .ok v (w.at d)) (he:∀d,∀e∈(results fn a.tmps).events P (w.at d) #[],EvT F e) (h:Own P main F Stop (G (c.finish v) cs) w):
 Own P main F Stop (G {b.at a todo with mode:=.returning} (c::cs)) w:=
 .step rfl fun d=>⟨_,_,_,stepG_leave' hn hd hf (hr d),⟨⟨0,Grew.refl _ _⟩,fun e hm=>he d e (mem_seen hm)⟩,h.at d⟩
theorem wf_E0(w:World):Wf F0 w:=⟨fun r z h=>by cases h⟩
theorem res_any{fn:Func}{t:Array Value}{w:World}{τ:Tape}{e:Nat}{v:Value}(h:(results fn t).run P (retape w τ e)= .ok v (retape w τ e))(d:Nat):
 (results fn t).run P (w.at d)= .ok v (w.at d)∧∀x∈(results fn t).events P (w.at d) #[],EvT F0 x:=by
 obtain⟨w1,es,j,hu,r1,e1,t1,g1,hw1,l1⟩:=(results_sims (P:=P) (F:=F0) fn t (retape w τ e) (wf_E0 _)).ok (by rw[mask_none (fun _=>rfl)];exact h)
 rw[mask_none (fun _=>rfl)]at hu
 subst hu
 have hj:j=0:=by
  have:=g1.drawn
  omega
 subst hj
 have h2:=l1 (w.at d).tape (w.at d).drawn (by intro i q hi;omega)
 rw[mask_none (fun _=>rfl)]at h2
 have h3:(results fn t).run P (w.at d)= .ok v (w.at d):=h2
 refine⟨h3,fun x hx=>?_⟩
 obtain⟨w2,es2,j2,hu2,r2,e2,t2,g2,hw2,l2⟩:=(results_sims (P:=P) (F:=F0) fn t (w.at d) (wf_E0 _)).ok (by rw[mask_none (fun _=>rfl)];exact h3)
 rw[e2]at hx
 exact t2 x (by simpa using hx)
theorem own_callB{S:FuncId→Bool}(hC:Closed P S true)(hE:NoEarly P){f:Nat}{fn:Func}{c:Code}(hf:P.funcs[f]? =some fn)(hb:fn.body=some c)(hc:codeOk P S true c=true){args:Array Value}{w:World}{R:Value→World→Prop}
 (H:∀τ e,CallsB P fn args (retape w τ e) R) {cl:Frame} {cs:List Frame} {main:Bool} {Stop:Goroutine→World→Prop}
 (K:∀v w' τ e,R v (retape w' τ e)→Gd F0 w w'→Own P main F0 Stop (G (cl.finish v) cs) w'):Own P main F0 Stop (G (Frame.enter P f args .normal) (cl::cs)) w:=by
 let b:Frame:={(default:Frame)with fn:=f,kind:=.normal}
 have henter:Frame.enter P f args .normal=b.at {tmps:=args++Array.replicate (fn.ntmps - args.size) undef,defers:=[]} [.code c]:=by
  simp[Frame.enter,Frame.at,hf,hb,b]
 rw[henter]
 have back:∀(a':Act) (w':World) (t':List Item) (τ:Tape) (e:Nat),a'.defers=[]→(∃v,(results fn a'.tmps).run P (retape (mask F0 w') τ e)= .ok v (retape (mask F0 w') τ e)∧∃v',Ending.returned v= .returned v'∧R v' (retape (mask F0 w') τ e))→Gd F0 w w'→
  Own P main F0 Stop (G {b.at a' t' with mode:=.returning} (cl::cs)) w':=fun a' w' t' τ e hd ⟨v,h1,v',h2,h3⟩ hg=>by
  cases h2
  rw[mask_none (fun _=>rfl)]at h1 h3
  exact own_leave rfl hd hf (fun d=>(res_any h1 d).1) (fun d x hx=>(res_any h1 d).2 x hx) (K _ _ τ e h3 hg)
 refine lift (Q:=bodyPost P fn fun x w'=>∃v,x= .returned v∧R v w') hC (fun _ _=>rfl) hE hc (wf_E0 w) rfl (fun e a w hq=>?_) (fun τ e=>?_) (by simp[b]) (fun a' w' τ e hq _ hg=>?_) (fun a' w' τ e t' hq _ hg=>?_)
 ·cases e with
  | normal=>exact .inl rfl
  | ret=>exact .inr ⟨rfl,hq.1⟩
  | panic ch=>obtain⟨_,v,h,_⟩:=hq;cases h
  | outgrown=>obtain⟨v,h,_⟩:=hq;cases h
  | exit _=>exact hq.elim
  | goto _=>exact hq.elim
 ·rw[mask_none (fun _=>rfl)]
  exact H τ e c hb
 ·obtain⟨hd,h⟩:=hq
  have:b.at a' []=b.at ⟨a'.tmps,[]⟩ []:=by rw[← hd]
  rw[this]
  refine own_go rfl (fun d=>stepG_end) ?_
  exact back ⟨a'.tmps,[]⟩ w' [] τ e rfl h hg
 ·obtain⟨hd,h⟩:=hq
  exact back a' w' _ τ e hd h hg
def codeOkF(P:Program)(S:FuncId→Bool)(f:FuncId):Bool:=match P.funcs[f]? with
 | some fn => !(fn.name == "runtime.NumGoroutine") && match fn.body with
   | some c=>codeOk P S true c
   | none=>false
 | none=>false
theorem codeOkF_of {P : Program} {S : FuncId → Bool} {f : FuncId} (h : codeOkF P S f = true) : ∃ fn, P.funcs[f]? = some fn ∧ (fn.name == "runtime.NumGoroutine") = false ∧ ∃ c, fn.body = some c ∧ codeOk P S true c = true := by
 unfold codeOkF at h
 split at h
 ·rename_i fn hf
  rw[Bool.and_eq_true]at h
  obtain⟨h1,h2⟩:=h
  split at h2
  ·rename_i c hc
   exact⟨fn,hf,by simpa using h1,c,hc,h2⟩
  ·cases h2
 ·cases h
theorem closed_of{l:List Nat}(h:l.all (codeOkF P fun f=>l.contains f)=true):Closed P (fun f=>l.contains f) true:=fun f hf=>by
 obtain⟨fn,h1,h2,c,h3,h4⟩:=codeOkF_of (List.all_eq_true.1 h f (List.contains_iff_mem.1 hf))
 exact⟨fn,h1,h2,.inl ⟨c,h3,h4⟩⟩
theorem bes_callM{S:FuncId→Bool}(hC:Closed P S true)(hE:NoEarly P){f:Nat}{fn:Func}{c:Code}(hf:P.funcs[f]? =some fn)(hb:fn.body=some c)(hc:codeOk P S true c=true){args:Array Value}{w:World}{R:Value→World→Prop}
 (H:∀τ e,CallsB P fn args (retape w τ e) R) (hR:∀v u,R v u→w.heap.size≤u.heap.size∧∀r,r<w.heap.size→u.heap[r]? =w.heap[r]?) {cl:Frame} {cs:List Frame} {An:Anchor} {Stop:Goroutine→World→Prop}
 (K:∀v w' τ e,R v (retape w' τ e)→Bes An P Stop (G (cl.finish v) cs) w'):Bes An P Stop (G (Frame.enter P f args .normal) (cl::cs)) w:=by
 refine Bes.bind (Stop:=fun g u=>∃v τ e,g=G (cl.finish v) cs∧R v (retape u τ e)) ?_ fun g u ⟨v,τ,e,h1,h2⟩=>by rw[h1];exact K v u τ e h2
 have h1:Own P true F0 (fun g u=>∃v τ e,g=G (cl.finish v) cs∧R v (retape u τ e)) (G (Frame.enter P f args .normal) (cl::cs)) w:=
  own_callB hC hE hf hb hc H fun v w' τ e hr _=>.stop fun d=>⟨v,τ,e,rfl,hr⟩
 intro gs sl T q B h0 hL hP hA
 have hA0:(⟨0,An.W0⟩:Anchor).Holds w:=⟨hA.os,hA.output,hA.tape,Nat.zero_le _,fun r o hr=>absurd hr (Nat.not_lt_zero _)⟩
 obtain⟨N,gs',g',w',sl',T',q',B',hr,h0',hS,hL',hP',hA'⟩:=bes_ownM (A:=⟨0,An.W0⟩) rfl h1 gs sl T q B h0 hL hP hA0
 obtain⟨w0,d,rfl,hS⟩:=hS
 obtain⟨v,τ,e,e1,e2⟩:=hS d
 obtain⟨k1,k2⟩:=hR v _ e2
 refine⟨N,gs',g',_,sl',T',q',B',hr,h0',⟨v,τ,e,e1,e2⟩,hL',hP',hA'.os,hA'.output,hA'.tape,Nat.le_trans hA.low k1,fun r o hr ho hn=>?_⟩
 have h2:=hA.obj r o hr ho hn
 have h3:(w0.at d).heap[r]? =w.heap[r]?:=k2 r (alt h2)
 rw[h3]
 exact h2
end Mp
end
noncomputable section
variable{F:Fz}{w:World}
def krgBody:Code:=Try.f11.body.getD .skip
def krgs0:=pC [] krgBody
def krgr0:=pC [zt] krgBody
def krgs1:=pC [zf] krgBody
def krgs2:=pC [zf,zt] krgBody
def krgr1:=pC [zf,zt,zt] krgBody
def krgc12:=pC [zf,zt,zf] krgBody
def krgs3:=pC [zf,zt,zf,zt] krgBody
def krgs4:=pC [zf,zf] krgBody
def krgr3:=pC [zf,zf,zt] krgBody
def krgs5:=pC [zf,zf,zf] krgBody
def krgr4:=pC [zf,zf,zf,zt] krgBody
theorem krgs0':krgs0= .seq krgr0 krgs1:=by kernel_rfl
theorem krgr0':krgr0= .region 0 (oC krgr0) false:=by kernel_rfl
theorem krgs1':krgs1= .seq krgs2 krgs4:=by kernel_rfl
theorem krgs2':krgs2= .seq krgr1 krgc12:=by kernel_rfl
theorem krgr1':krgr1= .region 1 (oC krgr1) false:=by kernel_rfl
theorem krgc12':krgc12= .cond (.tmp 12) krgs3 .skip:=by kernel_rfl
theorem krgs4':krgs4= .seq krgr3 krgs5:=by kernel_rfl
theorem krgr3':krgr3= .region 3 (oC krgr3) false:=by kernel_rfl
theorem krgs5':krgs5= .seq krgr4 .ret:=by kernel_rfl
theorem krgr4':krgr4= .region 4 (oC krgr4) false:=by kernel_rfl
theorem enter_krg(args:Array Value):Frame.enter Try.prog 11 args .normal=(Go.Conc.base 11).at {tmps:=args++Array.replicate (38 - args.size) undef,defers:=[]} [.code krgs0]:=enter_at args Try.func11 rfl
def krgT(s:Nat→Value):Array Value:= #[s 0,s 1,s 2,s 3,s 4,s 5,s 6,s 7,s 8,s 9,s 10,s 11,s 12,s 13,s 14,s 15,s 16,s 17,s 18,s 19,s 20,s 21,s 22,s 23,s 24,s 25,s 26,s 27,s 28,s 29,s 30,s 31,s 32,s 33,s 34,s 35,s 36,s 37]
theorem krgT_of{A:Array Value}(h:A.size=38):∃s,A=krgT s:=by
 obtain⟨s,hs,_⟩:=arr_lit A h
 exact⟨s,hs⟩
theorem krg_0{a b c0 d0:Value}{cs:List Frame}{main:Bool}{Stop:Goroutine→World→Prop}
 (h:∀A,Slots 38 A [(0,a),(1,b),(2,c0),(3,d0)]→Own Try.prog main F Stop (G (Frame.enter Try.prog 30 #[] .normal) (((Go.Conc.base 11).at ⟨A,[]⟩ [.inRegion (oC krgr1) [0,1],.code krgc12,.code krgs4])::cs)) w):
 Own Try.prog main F Stop (G (Frame.enter Try.prog 11 #[a,b,c0,d0] .normal) cs) w:=by
 rw[enter_krg]
 walk_nrm
 refine ogSR krgs0' krgr0' ?_
 simp only[krgr0,krgBody,Try.f11,zz,Nat.reduceAdd]
 (refine oW fun dd K hK=>?_;go_simp;refine qT hK ?_;clear hK K)
 refine ogE ?_
 refine ogSE krgs1' ?_
 refine ogSR krgs2' krgr1' ?_
 simp only[krgr1,krgBody,Try.f11,zz,Nat.reduceAdd]
 refine oc callable30 #[] ?_
 refine h _ ?_
 exact⟨rfl,rfl,rfl,rfl,rfl,trivial⟩
theorem krg_1{b c0 d0:Value}{z:Int}(hz:0≤z∧z<256){A:Array Value}(hA:Slots 38 A [(0,.int .u8 z),(1,b),(2,c0),(3,d0)]){cs:List Frame}{main:Bool}{Stop:Goroutine→World→Prop}
 (h:∀A,Slots 38 A [(2,c0),(3,d0),(16,.int .i64 (1+z % 5))]→Own Try.prog main F Stop (G (Frame.enter Try.prog 41 #[b] .normal) (((Go.Conc.base 11).at ⟨A,[]⟩ [.inRegion (oC krgr3) [5,6,7],.code krgs5])::cs)) w):
 Own Try.prog main F Stop (G (((Go.Conc.base 11).at ⟨A,[]⟩ [.inRegion (oC krgr1) [0,1],.code krgc12,.code krgs4]).finish (.bool true)) cs) w:=by
 obtain⟨hsz,h0,h1,h2,h3,_⟩:=hA
 obtain⟨s,rfl⟩:=krgT_of hsz
 change s 0=_ at h0
 change s 1=_ at h1
 change s 2=_ at h2
 change s 3=_ at h3
 clear hsz
 simp only[krgT,h0,h1,h2,h3]
 clear h0 h1 h2 h3
 rw[Frame.finish_at]
 simp only[krgr1,krgBody,Try.f11,zz,Nat.reduceAdd]
 walk_nrm
 (refine oW fun dd K hK=>?_;go_simp;refine qT hK ?_;clear hK K)
 refine ogE ?_
 rw[krgc12']
 refine ogF ?_
 simp only[Bool.false_eq_true,if_false]
 refine ogK ?_
 refine ogSR krgs4' krgr3' ?_
 simp only[krgr3,krgBody,Try.f11,zz,Nat.reduceAdd]
 iterate 5 (refine oW fun dd K hK=>?_;go_simp;refine qT hK ?_;clear hK K)
 have e:IntKind.i64.wrap (1+IntKind.i64.wrap (z.tmod 5))=1+z % 5:=by rw[Int.tmod_eq_emod_of_nonneg hz.1,IntWalk.i64_in (z % 5) (by omega),IntWalk.i64_in _ (by omega)]
 simp only[e]
 refine oc callable41 #[b] ?_
 refine h _ ?_
 exact⟨rfl,rfl,rfl,rfl,trivial⟩
theorem krg_2{x c0:Value}{n m:Int}(hm:0≤m∧m<65536){A:Array Value}(hA:Slots 38 A [(2,c0),(3,.int .u16 m),(16,.int .i64 n)]){cs:List Frame}{main:Bool}{Stop:Goroutine→World→Prop}
 (h:∀A,Slots 38 A [(2,c0),(9,.int .i64 n),(10,x),(19,.int .i64 n),(20,x)]→Own Try.prog main F Stop (G (Frame.enter Try.prog 34 #[.int .i64 n,.bool true,x,c0,.int .i64 (m % 400)] .normal) (((Go.Conc.base 11).at ⟨A,[]⟩ [.inRegion (oC krgr4) [8,9,10,11,12,13,14,15,16,17,18,19],.code .ret])::cs)) w):
 Own Try.prog main F Stop (G (((Go.Conc.base 11).at ⟨A,[]⟩ [.inRegion (oC krgr3) [5,6,7],.code krgs5]).finish x) cs) w:=by
 obtain⟨hsz,h2,h3,h16,_⟩:=hA
 obtain⟨s,rfl⟩:=krgT_of hsz
 change s 2=_ at h2
 change s 3=_ at h3
 change s 16=_ at h16
 clear hsz
 simp only[krgT,h2,h3,h16]
 clear h2 h3 h16
 rw[Frame.finish_at]
 simp only[krgr3,krgBody,Try.f11,zz,Nat.reduceAdd]
 walk_nrm
 iterate 2 (refine oW fun dd K hK=>?_;go_simp;refine qT hK ?_;clear hK K)
 refine ogE ?_
 refine ogSR krgs5' krgr4' ?_
 simp only[krgr4,krgBody,Try.f11,zz,Nat.reduceAdd]
 iterate 8 (refine oW fun dd K hK=>?_;go_simp;refine qT hK ?_;clear hK K)
 have e:IntKind.i64.wrap (m.tmod 400)=m % 400:=by rw[Int.tmod_eq_emod_of_nonneg hm.1,IntWalk.i64_in _ (by omega)]
 simp only[e]
 refine oc callable34 #[.int .i64 n,.bool true,x,c0,.int .i64 (m % 400)] ?_
 refine h _ ?_
 exact⟨rfl,rfl,rfl,rfl,rfl,rfl,trivial⟩
theorem krg_3{x y c0 t:Value}{A:Array Value}(hA:Slots 38 A [(2,c0),(9,y),(10,x),(19,y),(20,x)]){cs:List Frame}{main:Bool}{Stop:Goroutine→World→Prop}
 (h:∀A,Slots 38 A [(2,c0),(9,y),(10,x)]→Own Try.prog main F Stop (G (Frame.enter Try.prog 42 #[y,x,t] .normal) (((Go.Conc.base 11).at ⟨A,[]⟩ [.inRegion (oC krgr4) [9,10,11,12,13,14,15,16,17,18,19],.code .ret])::cs)) w):
 Own Try.prog main F Stop (G (((Go.Conc.base 11).at ⟨A,[]⟩ [.inRegion (oC krgr4) [8,9,10,11,12,13,14,15,16,17,18,19],.code .ret]).finish t) cs) w:=by
 obtain⟨hsz,h2,h9,h10,h19,h20,_⟩:=hA
 obtain⟨s,rfl⟩:=krgT_of hsz
 change s 2=_ at h2
 change s 9=_ at h9
 change s 10=_ at h10
 change s 19=_ at h19
 change s 20=_ at h20
 clear hsz
 simp only[krgT,h2,h9,h10,h19,h20]
 clear h2 h9 h10 h19 h20
 rw[Frame.finish_at]
 simp only[krgr4,krgBody,Try.f11,zz,Nat.reduceAdd]
 walk_nrm
 refine oc callable42 #[y,x,t] ?_
 refine h _ ?_
 exact⟨rfl,rfl,rfl,rfl,trivial⟩
theorem krg_4{x y c0:Value}{A:Array Value}(hA:Slots 38 A [(2,c0),(9,y),(10,x)]){cs:List Frame}{main:Bool}{Stop:Goroutine→World→Prop}
 (h:∀A,Slots 38 A [(29,.bool true),(30,y),(31,x)]→Own Try.prog main F Stop (G (Frame.enter Try.prog 34 #[y,.bool true,x,c0,.int .i64 1048576] .normal) (((Go.Conc.base 11).at ⟨A,[]⟩ [.inRegion (oC krgr4) [16,17,18,19],.code .ret])::cs)) w):
 Own Try.prog main F Stop (G (((Go.Conc.base 11).at ⟨A,[]⟩ [.inRegion (oC krgr4) [9,10,11,12,13,14,15,16,17,18,19],.code .ret]).finish (.bool true)) cs) w:=by
 obtain⟨hsz,h2,h9,h10,_⟩:=hA
 obtain⟨s,rfl⟩:=krgT_of hsz
 change s 2=_ at h2
 change s 9=_ at h9
 change s 10=_ at h10
 clear hsz
 simp only[krgT,h2,h9,h10]
 clear h2 h9 h10
 rw[Frame.finish_at]
 simp only[krgr4,krgBody,Try.f11,zz,Nat.reduceAdd]
 walk_nrm
 iterate 6 (refine oW fun dd K hK=>?_;go_simp;refine qT hK ?_;clear hK K)
 refine oc callable34 #[y,.bool true,x,c0,.int .i64 1048576] ?_
 refine h _ ?_
 exact⟨rfl,rfl,rfl,rfl,trivial⟩
theorem krg_5{x y t:Value}{A:Array Value}(hA:Slots 38 A [(29,.bool true),(30,y),(31,x)]){cs:List Frame}{main:Bool}{Stop:Goroutine→World→Prop}
 (h:∀A,Slots 38 A [(29,.bool true)]→Own Try.prog main F Stop (G (Frame.enter Try.prog 42 #[y,x,t] .normal) (((Go.Conc.base 11).at ⟨A,[]⟩ [.inRegion (oC krgr4) [17,18,19],.code .ret])::cs)) w):
 Own Try.prog main F Stop (G (((Go.Conc.base 11).at ⟨A,[]⟩ [.inRegion (oC krgr4) [16,17,18,19],.code .ret]).finish t) cs) w:=by
 obtain⟨hsz,h29,h30,h31,_⟩:=hA
 obtain⟨s,rfl⟩:=krgT_of hsz
 change s 29=_ at h29
 change s 30=_ at h30
 change s 31=_ at h31
 clear hsz
 simp only[krgT,h29,h30,h31]
 clear h29 h30 h31
 rw[Frame.finish_at]
 simp only[krgr4,krgBody,Try.f11,zz,Nat.reduceAdd]
 walk_nrm
 refine oc callable42 #[y,x,t] ?_
 refine h _ ?_
 exact⟨rfl,rfl,trivial⟩
theorem krg_6{A:Array Value}(hA:Slots 38 A [(29,.bool true)]){cs:List Frame}{main:Bool}{Stop:Goroutine→World→Prop}
 (h:∀A,Slots 38 A [(8,.bool true)]→Own Try.prog main F Stop (G {(Go.Conc.base 11).at ⟨A,[]⟩ [.code .ret]with mode:=.returning} cs) w):
 Own Try.prog main F Stop (G (((Go.Conc.base 11).at ⟨A,[]⟩ [.inRegion (oC krgr4) [17,18,19],.code .ret]).finish (.bool true)) cs) w:=by
 obtain⟨hsz,h29,_⟩:=hA
 obtain⟨s,rfl⟩:=krgT_of hsz
 change s 29=_ at h29
 clear hsz
 simp only[krgT,h29]
 clear h29
 rw[Frame.finish_at]
 simp only[krgr4,krgBody,Try.f11,zz,Nat.reduceAdd]
 walk_nrm
 iterate 2 (refine oW fun dd K hK=>?_;go_simp;refine qT hK ?_;clear hK K)
 refine ogE ?_
 refine ogX ?_
 refine h _ ?_
 exact⟨rfl,rfl,trivial⟩
end
section
variable{w w' u u':World}
theorem nbl_mem(j:Nat):∀(l:List Op4) (i:Nat) (o:Op4),o∈nbl j i l→1≤o.kd∧o.kd≤4∧(100*j+i+1:Nat)≤o.a∧o.a≤(100*j+i+l.length:Nat)
 | [],i,o,h=>by simp[nbl]at h
 | p::l,i,o,h=>by
   simp only[nbl,List.mem_cons]at h
   simp only[List.length_cons]
   rcases h with rfl|h
   ·simp only[nbo]
    refine⟨by omega,by omega,by omega,by omega⟩
   ·obtain⟨h1,h2,h3,h4⟩:=nbl_mem j l (i+1) o h
    exact⟨h1,h2,by omega,by omega⟩
theorem nb_mem{j:Nat}{l:List Op4}{o:Op4}(h:o∈nb j l):1≤o.kd∧o.kd≤4∧(100*j:Nat)<o.a∧o.a≤(100*j+8:Nat):=by
 obtain⟨h1,h2,h3,h4⟩:=nbl_mem j _ _ o h
 have:(l.take 8).length≤8:=by simp;omega
 exact⟨h1,h2,by omega,by omega⟩
theorem nb_len(j:Nat)(l:List Op4):(nb j l).length≤8:=by
 unfold nb;rw[nbl_len];simp;omega
theorem nb_kd(j:Nat)(l:List Op4):Kd4 (nb j l):=fun o h=>⟨(nb_mem h).1,(nb_mem h).2.1⟩
theorem nbl_count(j:Nat)(v:Int):∀(l:List Op4) (i:Nat),(pvl (nbl j i l)).count v≤if(100*j+i:Nat)<v∧v≤(100*j+i+l.length:Nat)then 1 else 0
 | [],i=>by simp[nbl,pvl]
 | p::l,i=>by
   have ih:=nbl_count j v l (i+1)
   have ea:(nbo j i p.kd).a=((100*j+i+1:Nat):Int):=by simp only[nbo];omega
   simp only[nbl,pvl,List.length_cons]
   by_cases h1:(100*j+(i+1):Nat)<v∧v≤(100*j+(i+1)+l.length:Nat)
   ·rw[if_pos h1]at ih
    have e:(if(100*j+i:Nat)<v∧v≤(100*j+i+(l.length+1):Nat)then(1:Nat)else 0)=1:=if_pos ⟨by omega,by omega⟩
    rw[e]
    split
    ·rw[List.count_cons_of_ne (by rw[ea];omega)];exact ih
    ·exact ih
   ·rw[if_neg h1]at ih
    by_cases h2:v=((100*j+i+1:Nat):Int)
    ·have e:(if(100*j+i:Nat)<v∧v≤(100*j+i+(l.length+1):Nat)then(1:Nat)else 0)=1:=if_pos ⟨by omega,by omega⟩
     rw[e]
     split
     ·rw[List.count_cons];split<;>omega
     ·omega
    ·split
     ·rw[List.count_cons_of_ne (by rw[ea];exact fun h=>h2 h.symm)];omega
     ·omega
theorem nb_once{n:Nat}{ops:Nat→List Op4}(h:∀j,j<n→∃l,ops j=nb j l)(v:Int):bgv n ops v≤if 0<v∧v≤(100*n:Nat)then 1 else 0:=by
 induction n with
 | zero=>simp[bgv,sm]
 | succ n ih=>
   have ih:=ih fun j hj=>h j (by omega)
   obtain⟨l,e⟩:=h n (by omega)
   have h2:=nbl_count n v (l.take 8) 0
   have h8:(l.take 8).length≤8:=by simp;omega
   unfold bgv at ih ⊢
   simp only[sm]
   rw[e]
   unfold nb
   split at h2<;>split at ih<;>split<;>omega
structure NbR(w:World)(n:Nat)(ops:Nat→List Op4)(ta:Option Addr)(tb:Nat)(oa:Nat→Option Addr)(oc:Nat→Nat):Prop where
 n4:n≤4
 ta:0<n→ta=some ⟨tb,0,none⟩
 th:∀j,j<n→At w ⟨tb,j,none⟩ (.slice (oa j) (ops j).length (oc j))∧(ops j).length≤oc j∧((oa j=none∧(ops j).length=0∧oc j=0)∨∃pb po,oa j=some ⟨pb,po,none⟩)
 op:∀j,j<n→∀(i:Nat) (x:Op4),(ops j)[i]? =some x→∃pb,oa j=some ⟨pb,0,none⟩∧At w ⟨pb,i*4,none⟩ (.int .i64 x.kd)∧At w ⟨pb,i*4+1,none⟩ (.int .i64 x.a)∧At w ⟨pb,i*4+2,none⟩ (.int .i64 x.b)∧At w ⟨pb,i*4+3,none⟩ (.int .i64 x.c)
 nb:∀j,j<n→∃l,ops j=nb j l
def OldC(w u:World):Prop:=w.heap.size≤u.heap.size∧∀(r:Nat) (c:Array Value) (e:TypeId) (z:Nat×Nat),w.heap[r]? =some (.cells c e z)→u.heap[r]? =some (.cells c e z)
theorem KeptW.oldC(k:KeptW w u):OldC w u:=⟨k.1,fun r c e z h=>(k.2 r (alt h)).trans h⟩
theorem OldC.trans{v:World}(h:OldC w u)(k:OldC u v):OldC w v:=⟨Nat.le_trans h.1 k.1,fun r c e z e1=>k.2 r c e z (h.2 r c e z e1)⟩
theorem OldC.heap(e:u.heap=w.heap):OldC w u:=(KeptW.heap e).oldC
theorem PlayU.oldC{n:Nat}{ans:Nat→List (Bool×Int)}{state:List Int}{order:List Nat}{aa:Nat}{ov sv:Value}(h:PlayU w n ans state order aa ov sv w'):OldC w w':=⟨h.size,h.old⟩
theorem At.oldC{a:Addr}{v:Value}(h:At w a v)(k:OldC w u):At u a v:=by
 obtain⟨c,e,z,h3⟩:=cell_block h.c
 have h4:=k.2 _ _ _ _ h3
 exact⟨by rw[← h.c];unfold World.cell?;simp only[h3,h4],by rw[← h.z];unfold World.frozen?;simp only[h3,h4]⟩
section
variable{n:Nat}{ops:Nat→List Op4}{ta:Option Addr}{tb:Nat}{oa:Nat→Option Addr}{oc:Nat→Nat}
theorem NbR.oldC(h:NbR w n ops ta tb oa oc)(k:OldC w u):NbR u n ops ta tb oa oc:=
 ⟨h.n4,h.ta,fun j hj=>⟨(h.th j hj).1.oldC k,(h.th j hj).2⟩,fun j hj i x hx=>by obtain⟨pb,e,a,b,c,d⟩:=h.op j hj i x hx;exact⟨pb,e,a.oldC k,b.oldC k,c.oldC k,d.oldC k⟩,h.nb⟩
def slA:Value→Option Addr
 | .slice a _ _=>a
 | _=>none
def slC:Value→Nat
 | .slice _ _ c=>c
 | _=>0
theorem row_slice{base n size:Nat}{e:TypeId}{v:Value}{xs:List Value}(h:u.ownsRow base e size v n xs):v= .slice (slA v) n (slC v)∧n≤slC v∧((slA v=none∧n=0∧slC v=0)∨∃pb po,slA v=some ⟨pb,po,none⟩):=by
 rcases h.2 with⟨rfl,rfl⟩|⟨b,cap,cur,rfl,h3,h4,h5,h6,h7,h8⟩
 ·exact⟨rfl,Nat.le_refl _,.inl ⟨rfl,rfl,rfl⟩⟩
 ·exact⟨rfl,h5,.inr ⟨b,0,rfl⟩⟩
theorem nbr_of{ops0:Nat→List Op4}{v:Value}(hn:n≤4)(h:NbOut w n ops0 v u):∃ta tc tb oa oc,v= .slice ta n tc∧n≤tc∧NbR u n (fun j=>nb j (ops0 j)) ta tb oa oc∧KeptW w u:=by
 obtain⟨rv,L,hN,hL⟩:=h
 obtain⟨e1,e2,e3⟩:=row_slice hN.row
 have hc:∀j,j<n→∃cap b,v= .slice (some ⟨b,0,none⟩) n cap∧At u ⟨b,j,none⟩ (rv j):=fun j hj=>by
  obtain⟨b,cap,a1,a2⟩:=row_get (k:=j) (x:=rv j) hN.row (by rw[List.getElem?_map,List.getElem?_range hj];rfl)
  exact⟨cap,b,a1,a2⟩
 obtain⟨tb,htb⟩:∃tb,0<n→slA v=some ⟨tb,0,none⟩:=by
  by_cases h0:0<n
  ·obtain⟨cap,b,a1,a2⟩:=hc 0 h0
   exact⟨b,fun _=>by rw[a1];rfl⟩
  ·exact⟨0,fun h=>absurd h h0⟩
 refine⟨slA v,slC v,tb,fun j=>slA (rv j),fun j=>slC (rv j),e1,e2,⟨hn,htb,fun j hj=>?_,fun j hj i x hx=>?_,fun j hj=>⟨_,rfl⟩⟩,hN.k⟩
 ·obtain⟨r1,r2⟩:=hN.rs j hj
  rw[hL j hj]at r1
  obtain⟨f1,f2,f3⟩:=row_slice r1
  obtain⟨cap,b,a1,a2⟩:=hc j hj
  have e4:=htb (by omega)
  rw[a1]at e4
  have e5:b=tb:=by simp only[slA,Option.some.injEq,Addr.mk.injEq]at e4;exact e4.1
  subst e5
  rw[f1]at a2
  exact⟨a2,f2,f3⟩
 ·obtain⟨r1,r2⟩:=hN.rs j hj
  rw[hL j hj]at r1
  obtain⟨g0,g1,g2,g3⟩:=opC_get _ _ _ hx
  obtain⟨b,cap,a1,a2⟩:=row_get r1 g0
  obtain⟨b1,cap1,b1e,a3⟩:=row_get r1 g1
  obtain⟨b2,cap2,b2e,a4⟩:=row_get r1 g2
  obtain⟨b3,cap3,b3e,a5⟩:=row_get r1 g3
  rw[a1]at b1e b2e b3e
  cases b1e
  cases b2e
  cases b3e
  exact⟨b,by rw[a1];rfl,a2,a3,a4,a5⟩
def SchIn(w:World)(S:List Int)(sa:Option Addr):Prop:=0<S.length→∃sb so c e z,sa=some ⟨sb,so,none⟩∧w.heap[sb]? =some (.cells c e z)∧∀(k:Nat) (u:Value),(S.map fun i:Int=>Value.int .i64 i)[k]? =some u→c[so+k]? =some u∧(decide (z.1≤so+k) && decide (so+k<z.2))=false
theorem SchIn.oldC{S:List Int}{sa:Option Addr}(h:SchIn w S sa)(k:OldC w u):SchIn u S sa:=fun hp=>by
 obtain⟨sb,so,c,e,z,h1,h2,h3⟩:=h hp
 exact⟨sb,so,c,e,z,h1,k.2 _ _ _ _ h2,h3⟩
theorem NbR.opsIn(h:NbR w n ops ta tb oa oc){S:List Int}{sa:Option Addr}(hl:S.length<9223372036854775808)(hS:SchIn w S sa):OpsIn w (fun _=>False) n tb 0 n ta oa (fun j=>(ops j).length) oc ops S sa:=by
 have hn4:=h.n4
 have h8:∀j,j<n→(ops j).length≤8:=fun j hj=>by
  obtain⟨l,e⟩:=h.nb j hj
  rw[e];exact nb_len j l
 refine⟨by omega,h.ta,fun hp=>?_,fun j hj=>?_,fun j hj=>by have:=h8 j hj;omega,fun j hj i x hx=>?_,hl,fun hp=>?_⟩
 ·obtain⟨c,e,z,e1⟩:=cell_block (h.th 0 hp).1.c
  exact(alt e1)
 ·obtain⟨h1,h2,_⟩:=h.th j hj
  rw[Nat.zero_add]
  exact⟨h1.c,h1.z,h2⟩
 ·obtain⟨pb,e,a,b,c,d⟩:=h.op j hj i x hx
  refine⟨pb,0,e,fun h=>h,?_⟩
  rw[Nat.zero_add]
  exact⟨a.c,b.c,c.c,d.c,a.z,b.z,c.z,d.z⟩
 ·obtain⟨sb,so,c,e,z,h1,h2,h3⟩:=hS hp
  exact⟨sb,so,c,e,z,h1,fun h=>h,h2,h3⟩
theorem NbR.rtIn(h:NbR w' n ops ta tb oa oc){an:Nat→List (Bool×Int)}{hs vs:List Int}(h4:hs.length=4){order:List Nat}{aa:Nat}{ov:Value}{xa:Option Addr}{xc tc:Nat}{live:Bool}
 (hP:PlayU w n an (hs++vs) order aa ov (.slice xa (hs++vs).length xc) w'):
 ∃va vc,∀w1,KeptW w' w1→w1.heap[w'.heap.size]? =some (.cells #[.slice (some ⟨aa,0,none⟩) n n,ov,.slice xa (4+vs.length) xc,.bool live] 31 (0,0))→RtIn w1 n ops an hs vs live ta (some ⟨aa,0,none⟩) xa tc n xc w'.heap.size oa va oc vc ov:=by
 obtain⟨c,ha,hcs,hc⟩:=hP.arr
 refine⟨fun j=>slA (c[j]?.getD undef),fun j=>slC (c[j]?.getD undef),fun w1 k hb=>⟨h.n4,fun j hj=>?_,fun j hj=>?_,fun j hj i x hx=>?_,fun j hj o ho=>?_,⟨fun j x hx=>?_⟩,fun j hj=>?_,h4,(rrow_of hP.st).olds k.2,?_,hb⟩⟩
 ·obtain⟨l,e⟩:=h.nb j hj
  have:=nb_len j l
  obtain⟨_,h2,h3⟩:=h.th j hj
  refine⟨by rw[e];exact this,h2,h3⟩
 ·obtain⟨h1,h2,_⟩:=h.th j hj
  exact⟨tb,0,h.ta (by omega),by rw[Nat.zero_add];exact k.cell h1.c⟩
 ·obtain⟨pb,e,a,b,c,d⟩:=h.op j hj i x hx
  refine⟨pb,0,e,?_⟩
  rw[Nat.zero_add]
  exact⟨k.cell a.c,k.cell b.c,k.cell c.c,k.cell d.c⟩
 ·obtain⟨l,e⟩:=h.nb j hj
  rw[e]at ho
  have:=nb_mem ho
  have:=h.n4
  omega
 ·have hj:j<n:=by have:=(List.getElem?_eq_some_iff.1 hx).1;simpa using this
  rw[List.getElem?_map,List.getElem?_range hj]at hx
  obtain⟨v,v1,v2,v3⟩:=hc j hj
  obtain⟨f1,_⟩:=row_slice v3
  simp only[v1,Option.getD_some,Option.map_some,Option.some.injEq]at hx
  rw[← f1]at hx
  subst hx
  refine⟨aa,0,rfl,k.cell ?_⟩
  rw[Nat.zero_add]
  exact(cell_of ha v1).c
 ·obtain⟨v,v1,v2,v3⟩:=hc j hj
  obtain⟨f1,_⟩:=row_slice v3
  simp only[v1,Option.getD_some]
  rw[f1]at v3
  exact(rrow_of v3).olds k.2
 ·have:=(row_slice hP.st).2.1
  simp only[slC,List.length_append,h4]at this
  exact this
end
end
section
variable{w w' u u' W:World}{An:Anchor}
theorem Th4.heap{ta:Option Addr}{tl tc n:Nat}{oa:Nat→Option Addr}{ol oc:Nat→Nat}{ops:Nat→List Op4}(h:Th4 w ta tl tc n oa ol oc ops)(k:OldC w u):Th4 u ta tl tc n oa ol oc ops:=by
 have kc:∀{a:Addr} {v:Value},w.cell? a=some v→u.cell? a=some v:=fun{a v} hc=>by
  obtain⟨c,e,z,h3⟩:=cell_block hc
  have h4:=k.2 _ _ _ _ h3
  rw[← hc];unfold World.cell?;simp only[h3,h4]
 exact⟨h.hn,h.htc,h.htn,fun j hj=>by obtain⟨tb,to,e,c⟩:=h.th j hj;exact⟨tb,to,e,kc c⟩,h.hoc,h.len,fun j hj i x hx=>by obtain⟨pb,po,e,a,b,c,d⟩:=h.op j hj i x hx;exact⟨pb,po,e,kc a,kc b,kc c,kc d⟩⟩
theorem NbOut.base{n:Nat}{ops:Nat→List Op4}{v:Value}(h:NbOut w n ops v u)(e:w.heap=w'.heap)(e2:u.heap=u'.heap):NbOut w' n ops v u':=by
 obtain⟨rv,L,hN,hL⟩:=h
 refine⟨rv,L,⟨ownsRow_same2 hN.row fun b _ _=>by rw[e2],⟨by rw[← e,← e2];exact hN.k.1,fun r hr=>by rw[← e,← e2];exact hN.k.2 r (by rw[e];exact hr)⟩,fun g hg=>by rw[← e];exact hN.new g hg,fun i hi=>?_⟩,hL⟩
 obtain⟨q1,q2⟩:=hN.rs i hi
 exact⟨ownsRow_same2 q1 fun b _ _=>by rw[e2],fun g hg=>by rw[← e];exact q2 g hg⟩
theorem closed0:Mp.Closed Try.prog (fun f=>([]:List Nat).contains f) true:=Mp.closed_of (by kernel_rfl)
theorem bes_nb{ta:Option Addr}{tl tc n:Nat}{oa:Nat→Option Addr}{ol oc:Nat→Nat}{ops:Nat→List Op4}(T:Th4 w ta tl tc n oa ol oc ops){cl:Frame}{cs:List Frame}{Stop:Goroutine→World→Prop}
 (K:∀v u,NbOut w n ops v u→Bes An Try.prog Stop (G (cl.finish v) cs) u):Bes An Try.prog Stop (G (Frame.enter Try.prog 41 #[.slice ta tl tc] .normal) (cl::cs)) w:=by
 refine Mp.bes_callM (P:=Try.prog) closed0 prog_late Try.func41 knb_body (by kernel_rfl) (R:=fun v u=>NbOut w n ops v u) (fun τ e=>?_) (fun v u h=>?_) fun v u τ e h=>K v u (h.base rfl rfl)
 ·refine(nb_callsB (w:=retape w τ e) (T.heap (OldC.heap rfl))).mono fun v u h=>h.base rfl rfl
 ·obtain⟨rv,L,hN,_⟩:=h
  exact hN.k
section
variable{N n:Nat}{ops:Nat→List Op4}{ta:Option Addr}{tb:Nat}{oa:Nat→Option Addr}{oc:Nat→Nat}
theorem state_len(q:KSt):(KSt.state q).length=4+q.vals.length:=by simp[KSt.state];omega
theorem bes_pr(hN:0<N∧N≤5)(h:NbR w n ops ta tb oa oc){S:List Int}{sa:Option Addr}{sc tc M:Nat}{mo:Int}(hl:S.length<9223372036854775808)(hS:SchIn w S sa)(hM:min (max mo 0) 1048576=(M:Int))
 {c:Frame} {cl:Array Value→Frame} {PA:Array Value→Prop} {cs:List Frame} {Stop:Goroutine→World→Prop}
 (hc:∀t W,Own Try.prog true F0 (fun a u=>∃A,PA A∧a=G (Frame.enter Try.prog 42 #[.int .i64 N,.slice ta n tc,t] .normal) (cl A::cs)∧u.heap=W.heap) (G (c.finish t) cs) W)
 (htc:n=n)
 (K:∀A u,PA A→OldC w u→Bes An Try.prog Stop (G ((cl A).finish (.bool true)) cs) u):
 Bes An Try.prog Stop (G (Frame.enter Try.prog 34 #[.int .i64 N,.bool true,.slice ta n tc,.slice sa S.length sc,.int .i64 mo] .normal) (c::cs)) w:=by
 have hn4:=h.n4
 refine bes_kplay (m0:=N) (by omega) (h.opsIn hl hS) hM fun s order hd ⟨k,hk⟩ aa oa' oc' xa xc w' hP=>?_
 have hkd:∀j,j<n→Kd4 (ops j):=fun j hj=>by
  obtain⟨l,e⟩:=h.nb j hj
  rw[e];exact nb_kd j l
 have hone:∀v,bgv n ops v≤1:=fun v=>by
  have:=nb_once h.nb v
  split at this<;>omega
 obtain⟨ch,fl,m,hr⟩:=run_kept4 hN.1 (by omega) hkd (hk k (Nat.le_refl _))
 have r4:=hr.right hone
 have h':=h.oldC hP.oldC
 refine bes_own (F:=F0) (hc _ w') fun a u ⟨A,hA,ha,hu⟩=>?_
 subst ha
 have hu':OldC w' u:=OldC.heap hu
 obtain⟨va,vc,hR⟩:=h'.rtIn (hs:=[s.q.hd.1,s.q.hd.2,s.q.fr.1,s.q.fr.2]) (vs:=s.q.vals) rfl (tc:=tc) (live:=decide (0<cnt s.live n)) hP
 rw[state_len s.q]
 refine Mp.bes_callM (P:=Try.prog) closed0 prog_late Try.func42 krt_body (by kernel_rfl) (R:=fun v u'=>v= .bool true∧KeptW u u') (fun τ e=>?_) (fun v u h=>h.2) fun v u' τ e ⟨hv,hk'⟩=>?_
 ·refine right_callsB (hs:=[s.q.hd.1,s.q.hd.2,s.q.fr.1,s.q.fr.2]) (w:=retape u τ e) (va:=va) (vc:=vc) (oa:=oa) (oc:=oc) (fun w1 k hb=>?_) r4 (by omega) hone hkd
  have ez:(retape u τ e).heap.size=w'.heap.size:=by show u.heap.size=_;rw[hu]
  rw[ez]at hb ⊢
  exact hR w1 (KeptW.trans (KeptW.heap hu) k) hb
 ·subst hv
  exact K A u' hA ((hP.oldC.trans hu').trans hk'.oldC)
end
theorem bes_kright{z m:Int}(hz:0≤z∧z<256)(hm:0≤m∧m<65536){ta:Option Addr}{tl tc n:Nat}{oa:Nat→Option Addr}{ol oc:Nat→Nat}{ops:Nat→List Op4}(T:Th4 W ta tl tc n oa ol oc ops){S:List Int}{sa:Option Addr}{sc:Nat}(hl:S.length<9223372036854775808)(hS:SchIn W S sa):
 Bes An Try.prog (LawStop An (LawPost W)) (G (Frame.enter Try.prog 11 #[.int .u8 z,.slice ta tl tc,.slice sa S.length sc,.int .u16 m] .normal) []) W:=by
 have hn4:n≤4:=by rw[T.hn];exact Nat.min_le_right _ _
 obtain⟨N,hN⟩:∃N:Nat,1+z % 5=(N:Int):=⟨(1+z % 5).toNat,by omega⟩
 refine bes_own (F:=F0) (Stop:=fun a u=>∃A,Slots 38 A [(0,.int .u8 z),(1,.slice ta tl tc),(2,.slice sa S.length sc),(3,.int .u16 m)]∧u.heap=W.heap∧a=G (Frame.enter Try.prog 30 #[] .normal) [(Go.Conc.base 11).at ⟨A,[]⟩ [.inRegion (oC krgr1) [0,1],.code krgc12,.code krgs4]])
  (krg_0 fun A hA=>.stop fun d=>⟨A,hA,rfl,rfl⟩) fun a u0 ⟨A,hA,hu0,ha⟩=>?_
 subst ha
 refine bes_turns fun w1 hs1 ho1=>?_
 have k1:OldC W w1:=(OldC.heap hu0).trans ⟨hs1,ho1⟩
 refine bes_own (F:=F0) (Stop:=fun a u=>∃A,Slots 38 A [(2,.slice sa S.length sc),(3,.int .u16 m),(16,.int .i64 N)]∧u.heap=w1.heap∧a=G (Frame.enter Try.prog 41 #[.slice ta tl tc] .normal) [(Go.Conc.base 11).at ⟨A,[]⟩ [.inRegion (oC krgr3) [5,6,7],.code krgs5]])
  (krg_1 hz hA fun A hA=>.stop fun d=>⟨A,by rw[hN]at hA;exact hA,rfl,rfl⟩) fun a u1 ⟨A,hA,hu1,ha⟩=>?_
 subst ha
 have k2:OldC W u1:=k1.trans (OldC.heap hu1)
 refine bes_nb (T.heap k2) fun v u2 hNb=>?_
 obtain⟨ta',tc',tb,oa',oc',rfl,_,hR,k3⟩:=nbr_of hn4 hNb
 have k4:OldC W u2:=k2.trans k3.oldC
 refine bes_own (F:=F0) (Stop:=fun a u=>∃A,Slots 38 A [(2,.slice sa S.length sc),(9,.int .i64 N),(10,.slice ta' n tc'),(19,.int .i64 N),(20,.slice ta' n tc')]∧u.heap=u2.heap∧a=G (Frame.enter Try.prog 34 #[.int .i64 N,.bool true,.slice ta' n tc',.slice sa S.length sc,.int .i64 (m % 400)] .normal) [(Go.Conc.base 11).at ⟨A,[]⟩ [.inRegion (oC krgr4) [8,9,10,11,12,13,14,15,16,17,18,19],.code .ret]])
  (krg_2 hm hA fun A hA=>.stop fun d=>⟨A,hA,rfl,rfl⟩) fun a u3 ⟨A,hA,hu3,ha⟩=>?_
 subst ha
 have k5:OldC u2 u3:=OldC.heap hu3
 have hR3:=hR.oldC k5
 have hS3:=hS.oldC (k4.trans k5)
 obtain⟨M,hM⟩:∃M:Nat,min (max (m % 400) 0) 1048576=(M:Int):=⟨(m % 400).toNat,by omega⟩
 refine bes_pr (N:=N) (by omega) hR3 hl hS3 hM (PA:=fun A=>Slots 38 A [(2,.slice sa S.length sc),(9,.int .i64 N),(10,.slice ta' n tc')]) (cl:=fun A=>(Go.Conc.base 11).at ⟨A,[]⟩ [.inRegion (oC krgr4) [9,10,11,12,13,14,15,16,17,18,19],.code .ret]) (fun t W=>krg_3 hA fun A hA=>.stop fun d=>⟨A,hA,rfl,rfl⟩) rfl fun A u4 hA k6=>?_
 refine bes_own (F:=F0) (Stop:=fun a u=>∃A,Slots 38 A [(29,.bool true),(30,.int .i64 N),(31,.slice ta' n tc')]∧u.heap=u4.heap∧a=G (Frame.enter Try.prog 34 #[.int .i64 N,.bool true,.slice ta' n tc',.slice sa S.length sc,.int .i64 1048576] .normal) [(Go.Conc.base 11).at ⟨A,[]⟩ [.inRegion (oC krgr4) [16,17,18,19],.code .ret]])
  (krg_4 hA fun A hA=>.stop fun d=>⟨A,hA,rfl,rfl⟩) fun a u5 ⟨A,hA,hu5,ha⟩=>?_
 subst ha
 have k7:OldC u3 u5:=k6.trans (OldC.heap hu5)
 refine bes_pr (N:=N) (by omega) (hR3.oldC k7) hl (hS3.oldC k7) (mo:=1048576) (M:=1048576) (by omega) (PA:=fun A=>Slots 38 A [(29,.bool true)]) (cl:=fun A=>(Go.Conc.base 11).at ⟨A,[]⟩ [.inRegion (oC krgr4) [17,18,19],.code .ret]) (fun t W=>krg_5 hA fun A hA=>.stop fun d=>⟨A,hA,rfl,rfl⟩) rfl fun A u6 hA k8=>?_
 refine bes_own (F:=F0) (Stop:=LawStop An (LawPost W)) ?_ fun a u h=>Bes.stop h
 refine krg_6 hA fun A hA=>.stop fun d=>law_stop Try.func11 rfl (by decide) hA.2.1 fun r c e z h=>?_
 exact(((k4.trans k5).trans k7).trans k8).2 r c e z h
end
section
open Go.ChangeShapes Go.WideShapes Go.ChangeAt
theorem bulk_one{H:Type}(d:DataW H):1≤Rows.uptoBulk d:=by
 cases d with
 | lit l=>cases l<;>simp[Rows.uptoBulk]
 | nil=>simp[Rows.uptoBulk]
 | ptr d=>simp[Rows.uptoBulk]
 | slice elems spare=>simp[Rows.uptoBulk]
 | agg parts=>simp[Rows.uptoBulk]
 | iface t d=>simp[Rows.uptoBulk]
 | map entries=>simp[Rows.uptoBulk]
 | held h=>simp[Rows.uptoBulk]
theorem bulk_part{H:Type}{d:DataW H}{l:List (DataW H)}(h:d∈l):Rows.uptoBulk d≤Rows.uptoBulkAll l:=by
 induction l with
 | nil=>cases h
 | cons x r ih=>
   simp only[Rows.uptoBulkAll]
   cases List.mem_cons.1 h with
   | inl e=>subst e;omega
   | inr e=>have:=ih e;omega
theorem bulk_length{H:Type}(l:List (DataW H)):l.length≤Rows.uptoBulkAll l:=by
 induction l with
 | nil=>simp[Rows.uptoBulkAll]
 | cons x r ih=>have:=bulk_one x;simp only[Rows.uptoBulkAll,List.length_cons];omega
theorem bulk_slice{H:Type}(elems spare:List (DataW H)):elems.length≤Rows.uptoBulk (.slice elems spare)∧∀d∈elems,Rows.uptoBulk d≤Rows.uptoBulk (.slice elems spare):=by
 have h1:=bulk_length elems
 simp only[Rows.uptoBulk]
 exact⟨by omega,fun d hd=>by have:=bulk_part hd;omega⟩
section
variable{H:Type}{enc:TypeId×Value→H}{W:World}
theorem cell_in{a:Addr}{v:Value}(h:W.cell? a=some v):∃c e z,W.heap[a.block]? =some (.cells c e z)∧c[a.off]? =some v:=by
 unfold World.cell? at h
 split at h
 ·rename_i c e z ho
  split at h
  ·cases h
  ·exact⟨c,e,z,ho,h⟩
 ·cases h
theorem frozen_in{b o:Nat}{c:Array Value}{e:TypeId}{z:Nat×Nat}(h:W.heap[b]? =some (.cells c e z))(hf:W.frozen? ⟨b,o,none⟩=false):(decide (z.1≤o) && decide (o<z.2))=false:=by
 simpa [World.frozen?,h]using hf
theorem ints_in{t e:TypeId}(ht:Try.prog.underlying t=some (.slice e))(he:Try.prog.underlying e=some (.int .i64))(hc:Try.prog.cellsOf e=1){v:Value}{d:DataW H}{p:List MemPlace}(hv:Value.okWide Try.prog W .any W.heap.size t v)
 (h:DataW.Trod enc Try.prog W 0 (fun _=>true) true t v d p) (hz:W.noneFrozen p) (hl:∀x∈p,x.block<W.heap.size):
 ∃(a:Option Addr) (vs:List Int) (c b o:Nat),v= .slice a vs.length c∧vs.length≤Rows.uptoBulk d∧(0<vs.length→a=some ⟨b,o,none⟩∧b<W.heap.size∧∃c e z,W.heap[b]? =some (.cells c e z)∧∀(k:Nat) (u:Int),vs[k]? =some u→
  c[o+k]? =some (.int .i64 u)∧(decide (z.1≤o+k) && decide (o+k<z.2))=false∧W.cell? ⟨b,o+k,none⟩=some (.int .i64 u)∧W.frozen? ⟨b,o+k,none⟩=false):=by
 obtain⟨fuel,hf⟩:=h
 obtain⟨a0,l0,c0,rfl⟩:=okWide_slice ht hv
 rcases open_ints ht he hc hf with⟨h1,h2⟩|⟨a,len,cap,zs,h1,hb,hlc,_,hzl,h2,h3,_⟩
 ·simp[Value.cells]at h1
  obtain⟨rfl,rfl,rfl⟩:=h1
  exact⟨none,[],0,0,0,rfl,Nat.zero_le _,fun h=>by simp at h⟩
 ·simp only[if_true]at hzl
  simp[Value.cells]at h1
  obtain⟨rfl,rfl,rfl⟩:=h1
  simp only[Prod.mk.injEq]at h2
  obtain⟨rfl,rfl⟩:=h2
  have el:(zs.take l0).length=l0:=by simp;omega
  refine⟨some a,zs.take l0,c0,a.block,a.off,by rw[el],?_,fun hp=>?_⟩
  ·have:=(bulk_slice (H:=H) (lits .i64 (zs.take l0)) (lits .i64 (zs.drop l0))).1
   simpa [lits]using this
  ·rw[el]at hp
   obtain⟨b,o,spot⟩:=a
   have hs:spot=none:=by
    have:=World.cell?_spot (h3 0 (by omega))
    simpa [Addr.add]using this
   subst hs
   have hc0:=h3 0 (by omega)
   rw[add_plain]at hc0
   obtain⟨c,e',z,ho,_⟩:=cell_in hc0
   have hfr:∀k,k<zs.length→W.frozen? ⟨b,o+k,none⟩=false:=fun k hk=>hz b (o+k) (by simp only[MemPlace.row,List.mem_map,List.mem_range];exact⟨k,hk,rfl⟩)
   refine⟨rfl,(alt ho),c,e',z,ho,fun k u hk=>?_⟩
   have hkl:=(List.getElem?_eq_some_iff.1 hk).1
   rw[el]at hkl
   have hu:zs.getD k 0=u:=by
    rw[List.getElem?_take_of_lt hkl]at hk
    simp[List.getD,hk]
   have hck:=h3 k (by omega)
   rw[add_plain,hu]at hck
   obtain⟨c',e2,z',ho',hcc⟩:=cell_in hck
   rw[ho]at ho'
   cases ho'
   exact⟨hcc,frozen_in ho (hfr k (by omega)),hck,hfr k (by omega)⟩
theorem cells47:Try.prog.cellsOf 47=4:=by kernel_rfl
theorem cells34:Try.prog.cellsOf 34=1:=by kernel_rfl
theorem cells2:Try.prog.cellsOf 2=1:=by kernel_rfl
theorem cells3:Try.prog.cellsOf 3=1:=by kernel_rfl
structure OpLies(W:World)(b o:Nat)(x:Op4):Prop where
 f0:W.cell? ⟨b,o,none⟩=some (.int .i64 x.kd)
 f1:W.cell? ⟨b,o+1,none⟩=some (.int .i64 x.a)
 f2:W.cell? ⟨b,o+2,none⟩=some (.int .i64 x.b)
 f3:W.cell? ⟨b,o+3,none⟩=some (.int .i64 x.c)
 g0:W.frozen? ⟨b,o,none⟩=false
 g1:W.frozen? ⟨b,o+1,none⟩=false
 g2:W.frozen? ⟨b,o+2,none⟩=false
 g3:W.frozen? ⟨b,o+3,none⟩=false
instance:Inhabited Op4:=⟨⟨0,0,0,0⟩⟩
theorem ops_in{v:Value}{fuel:Nat}{d:DataW H}{p:List MemPlace}(h:DataW.trod enc Try.prog W 0 (fun _=>true) true fuel 34 [v]=some (d,p))(hz:W.noneFrozen p):
 ∃(a:Option Addr) (l c b o:Nat) (X:Nat→Op4),v= .slice a l c∧l≤c∧l≤Rows.uptoBulk d∧∀k,k<l→a=some ⟨b,o,none⟩∧OpLies W b (o+k*4) (X k):=by
 rcases Deep.open_slice Try.underlying34 h with⟨h1,h2⟩|⟨a,len,cap,m,n,D,Pl,h1,hb,hlc,_,hm,h2,hx⟩
 ·cases h1
  exact⟨none,0,0,0,0,fun _=>default,rfl,Nat.le_refl _,Nat.zero_le _,fun k hk=>by omega⟩
 ·simp only[if_true]at hm
  subst hm
  cases h1
  simp only[Prod.mk.injEq]at h2
  obtain⟨rfl,rfl⟩:=h2
  rw[cells47]at hx hz
  have hsp:0<len→a.spot=none:=fun hp=>by
   obtain⟨cs',e1,_⟩:=hx 0 (by omega)
   obtain⟨_,_,hcell⟩:=World.cells?_some e1
   have h0:=hcell 0 (by omega)
   rw[List.getElem?_eq_getElem (by omega)]at h0
   have:=World.cell?_spot h0
   simpa [Addr.add]using this
  have each:∀k,k<len→∃x:Op4,∃b o,a=⟨b,o,none⟩∧OpLies W b (o+k*4) x:=fun k hk=>by
   obtain⟨cs',e1,e2⟩:=hx k (by omega)
   obtain⟨_,hlen,hcell⟩:=World.cells?_some e1
   obtain⟨xs,n',hk',hxy,_,hxl,hf⟩:=DataW.trod_struct Try.underlying47 e2
   match xs,hxl,cs',hlen with
   | [y0,y1,y2,y3],_,[v0,v1,v2,v3],_=>
     have q0:=hf 0 _ rfl
     have q1:=hf 1 _ rfl
     have q2:=hf 2 _ rfl
     have q3:=hf 3 _ rfl
     simp[cells2,cells3]at q0 q1 q2 q3
     obtain⟨n0,r0,_,_⟩:=DataW.trod_int Try.underlying3 q0
     obtain⟨n1,r1,_,_⟩:=DataW.trod_int Try.underlying2 q1
     obtain⟨n2,r2,_,_⟩:=DataW.trod_int Try.underlying2 q2
     obtain⟨n3,r3,_,_⟩:=DataW.trod_int Try.underlying2 q3
     cases r0
     cases r1
     cases r2
     cases r3
     obtain⟨b,o,spot⟩:=a
     have c0:=hcell 0 (by omega)
     have c1:=hcell 1 (by omega)
     have c2:=hcell 2 (by omega)
     have c3:=hcell 3 (by omega)
     have hs:spot=none:=hsp (by omega)
     subst hs
     rw[add_plain,add_plain]at c0 c1 c2 c3
     have hfr:∀j,j<m*4→W.frozen? ⟨b,o+j,none⟩=false:=fun j hj=>hz b (o+j) (List.mem_append_left _ (by simp only[MemPlace.row,List.mem_map,List.mem_range];exact⟨j,hj,rfl⟩))
     exact⟨⟨n0,n1,n2,n3⟩,b,o,rfl,c0,c1,c2,c3,hfr _ (by omega),by rw[Nat.add_assoc];exact hfr _ (by omega),by rw[Nat.add_assoc];exact hfr _ (by omega),by rw[Nat.add_assoc];exact hfr _ (by omega)⟩
  obtain⟨X,hX⟩:=Deep.choose_lt each
  refine⟨some a,len,m,a.block,a.off,X,rfl,hlc,?_,fun k hk=>?_⟩
  ·have:=(bulk_slice (H:=H) ((List.range len).map D) ((List.range (m - len)).map fun j=>D (len+j))).1
   simpa using this
  ·obtain⟨b,o,rfl,hh⟩:=hX k hk
   exact⟨rfl,hh⟩
end
end
section
open Go.ChangeShapes Go.WideShapes Go.ChangeAt
section
variable{H:Type}{enc:TypeId×Value→H}{W:World}
theorem ints_len{t e:TypeId}(ht:Try.prog.underlying t=some (.slice e))(he:Try.prog.underlying e=some (.int .i64))(hc:Try.prog.cellsOf e=1){a:Option Addr}{l c:Nat}{d:DataW H}{p:List MemPlace}
 (h:DataW.Trod enc Try.prog W 0 (fun _=>true) true t (.slice a l c) d p):l<9223372036854775808:=by
 obtain⟨fuel,hf⟩:=h
 rcases open_ints ht he hc hf with⟨h1,h2⟩|⟨a,len,cap,zs,h1,hb,hlc,hm,hzl,h2,h3,_⟩
 ·simp[Value.cells]at h1
  omega
 ·simp[Value.cells]at h1
  unfold maxLen at hm
  omega
theorem ops_none{a:Option Addr}{l c:Nat}{fuel:Nat}{d:DataW H}{p:List MemPlace}(h:DataW.trod enc Try.prog W 0 (fun _=>true) true fuel 34 [.slice a l c]=some (d,p)):a=none→l=0∧c=0:=by
 rcases Deep.open_slice Try.underlying34 h with⟨h1,h2⟩|⟨a,len,cap,m,n,D,Pl,h1,hb,hlc,_,hm,h2,hx⟩
 ·cases h1
  exact fun _=>⟨rfl,rfl⟩
 ·cases h1
  exact fun h=>by cases h
theorem th4_in{v:Value}{d:DataW H}{p:List MemPlace}(hv:Value.okWide Try.prog W .any W.heap.size 23 v)(h:DataW.Trod enc Try.prog W 0 (fun _=>true) true 23 v d p)(hz:W.noneFrozen p):
 ∃a tl tc oa ol oc ops,v= .slice a tl tc∧Th4 W a tl tc (min tl 4) oa ol oc ops:=by
 obtain⟨fuel,hf⟩:=h
 obtain⟨a0,l0,c0,rfl⟩:=okWide_slice Try.underlying23 hv
 rcases Deep.open_slice1 Try.underlying23 cells34 hf with⟨h1,h2⟩|⟨a,len,cap,m,n,V,D,Pl,h1,hb,hlc,_,hm,h2,hx⟩
 ·simp[Value.cells]at h1
  obtain⟨rfl,rfl,rfl⟩:=h1
  exact⟨none,0,0,fun _=>none,fun _=>0,fun _=>0,fun _=>[],rfl,rfl,Nat.le_refl _,fun _=>⟨rfl,rfl⟩,fun j hj=>by simp at hj,fun j hj=>by simp at hj,fun j hj=>by simp at hj,fun j hj=>by simp at hj⟩
 ·simp only[if_true]at hm
  subst hm
  simp[Value.cells]at h1
  obtain⟨rfl,rfl,rfl⟩:=h1
  simp only[Prod.mk.injEq]at h2
  obtain⟨rfl,rfl⟩:=h2
  have each:∀j,j<l0→∃q:Option Addr×Nat×Nat×Nat×Nat×(Nat→Op4),V j= .slice q.1 q.2.1 q.2.2.1∧q.2.1≤q.2.2.1∧(q.1=none→q.2.1=0∧q.2.2.1=0)∧∀k,k<q.2.1→q.1=some ⟨q.2.2.2.1,q.2.2.2.2.1,none⟩∧OpLies W q.2.2.2.1 (q.2.2.2.2.1+k*4) (q.2.2.2.2.2 k):=fun j hj=>by
   have hh:=(hx j (by omega)).2
   obtain⟨x1,x2,x3,x4,x5,x6,e1,e2,e3,e4⟩:=ops_in hh (fun b o hm=>hz b o (List.mem_append_right _ (List.mem_flatMap.2 ⟨j,List.mem_range.2 (by omega),hm⟩)))
   rw[e1]at hh
   exact⟨⟨x1,x2,x3,x4,x5,x6⟩,e1,e2,ops_none hh,e4⟩
  obtain⟨q,hq⟩:=Deep.choose_lt each
  have hsp:0<l0→a=⟨a.block,a.off,none⟩:=fun hp=>by
   obtain⟨b,o,spot⟩:=a
   have hs:spot=none:=by
    have:=World.cell?_spot (hx 0 (by omega)).1
    simpa [Addr.add]using this
   subst hs
   rfl
  have hcell:∀j,j<l0→W.cell? ⟨a.block,a.off+j,none⟩=some (.slice (q j).1 (q j).2.1 (q j).2.2.1):=fun j hj=>by
   have:=(hx j (by omega)).1
   rw[hsp (by omega),add_plain,(hq j hj).1]at this
   exact this
  refine⟨some a,l0,c0,fun j=>(q j).1,fun j=>(q j).2.1,fun j=>(q j).2.2.1,fun j=>(List.range (min (q j).2.1 65536)).map (q j).2.2.2.2.2,rfl,rfl,hlc,fun h=>(by cases h),fun j hj=>⟨a.block,a.off,by rw[← hsp (by omega)],hcell j (by omega)⟩,fun j hj=>⟨(hq j (by omega)).2.1,(hq j (by omega)).2.2.1⟩,fun j hj=>by simp,fun j hj k x hk=>?_⟩
  have hkl:=(List.getElem?_eq_some_iff.1 hk).1
  simp only[List.length_map,List.length_range]at hkl
  have hx':(q j).2.2.2.2.2 k=x:=by
   rw[List.getElem?_map,List.getElem?_range hkl]at hk
   simpa using hk
  obtain⟨e1,e2⟩:=(hq j (by omega)).2.2.2 k (by omega)
  rw[hx']at e2
  exact⟨_,_,e1,e2.f0,e2.f1,e2.f2,e2.f3⟩
end
theorem kright_lifted(os:Os)(started:os.Started)(H:Type)(enc:TypeId×Value→H):
 ReturnsInLeavingWide {} Try.checked os 11 .any (Rows.stackRightSpec.pre6 enc Try.prog Try.f11 Rows.stackRightRow.domain false) (Rows.stackRightSpec.post enc Try.prog Try.f11 false true false false):=by
 refine returnsInLeavingWide_of_change_sized (C:=Try.checked) Try.own started Try.func11
  (ChangeSpec.witness6 (enc:=enc) (C:=Try.checked) false ⟨#[],#[.int .u8 0,.slice none 0 0,.slice none 0 0,.int .u16 0],[]⟩ 8 (by kernel_rfl) (by kernel_rfl) (by kernel_rfl) (by kernel_rfl)) ?_
 intro W base args ds gs before hval0 hW _ hsz0 _
 have hval:∀(j:Nat) t v,Try.f11.params[j]? =some t→args[j]? =some v→Value.okWide Try.prog W .any base t v:=hval0
 have hW':=hW
 obtain⟨p,q,hA0,hV,rfl,hfz,_⟩:=hW
 have hA:DataW.TrodAll enc Try.prog W 0 (fun _=>true) true Try.f11.params.toList args.toList ds p:=hA0
 rw[Try.params11]at hA hval
 obtain⟨v0,v1,v2,v3,d0,d1,d2,d3,p0,p1,p2,p3,rfl,rfl,rfl,h0,h1,h2,h3⟩:=trodAll_four hA
 obtain⟨rfl,rfl⟩:=trodVars_none hV
 obtain⟨z,rfl,rfl,rfl,wz⟩:=open_int Try.underlying5 (hval 0 5 v0 rfl rfl) h0
 obtain⟨mo,rfl,rfl,rfl,wmo⟩:=open_int Try.underlying83 (hval 3 83 v3 rfl rfl) h3
 clear hA0 hval0
 simp only[List.append_nil,List.nil_append]at hW' hfz
 have hlt:∀x∈p1++p2,x.block<W.heap.size:=fun x hx=>by simpa using hW'.lt x hx
 obtain⟨ta,tl,tc,oa,ol,oc,ops,rfl,hT⟩:=th4_in (hval 1 23 v1 rfl rfl) h1 (fun b o h=>hfz b o (by simp[h]))
 obtain⟨sa,S,sc,sb,so,rfl,_,hS⟩:=ints_in Try.underlying24 Try.underlying3 cells3 (hval 2 24 v2 rfl rfl) h2 (fun b o h=>hfz b o (by simp[h])) (fun x hx=>hlt x (by simp[hx]))
 have hsl:=ints_len Try.underlying24 Try.underlying3 cells3 h2
 have hz:0≤z∧z<256:=by
  simp only[Lit.wf,Bool.and_eq_true,decide_eq_true_eq]at wz
  have e1:IntKind.u8.min=0:=rfl
  have e2:IntKind.u8.max=255:=rfl
  rw[e1,e2]at wz
  omega
 have hm:0≤mo∧mo<65536:=by
  simp only[Lit.wf,Bool.and_eq_true,decide_eq_true_eq]at wmo
  have e1:IntKind.u16.min=0:=rfl
  have e2:IntKind.u16.max=65535:=rfl
  rw[e1,e2]at wmo
  omega
 have hbes:=bes_kright (An:=⟨W.heap.size,W⟩) (W:=W) (sc:=sc) hz hm hT hsl fun hp=>by
  obtain⟨e1,e2,c,e,z,e3,e4⟩:=hS hp
  refine⟨sb,so,c,e,z,e1,e3,fun k u hu=>?_⟩
  rw[List.getElem?_map,Option.map_eq_some_iff]at hu
  obtain⟨i,hi,rfl⟩:=hu
  exact⟨(e4 k i hi).1,(e4 k i hi).2.1⟩
 obtain⟨N,last,o',w',t',g1,g2,g3,g4⟩:=bes_good (An:=⟨W.heap.size,W⟩) (Post:=fun v w'=>LawPost W v w'∧(⟨W.heap.size,W⟩:Anchor).Holds w') (W:=W) ⟨rfl,rfl,rfl,Nat.le_refl _,fun r o _ h _=>h⟩ (Bes.bind hbes fun g w h=>Bes.stop ⟨h.1,fun d=>by
  obtain⟨v,e1,e2⟩:=h.2 d
  exact⟨v,e1,fun hh=>⟨e2 hh,hh⟩⟩⟩)
 refine⟨N,last,o',w',t',g1,g2,g3,g4.mono fun v hF=>?_⟩
 obtain⟨⟨rfl,hk⟩,hh⟩:=hF
 have hbelow:=below_of hh hk
 have r1:=Below.trod Try.laidOut (by kernel_rfl) (of_decide_eq_true (by kernel_rfl)) h1 hbelow (fun x hx=>hlt x (by simp[hx]))
 have r2:=Below.trod Try.laidOut (by kernel_rfl) (of_decide_eq_true (by kernel_rfl)) h2 hbelow (fun x hx=>hlt x (by simp[hx]))
 refine⟨_,_,_,[],[]++(p1++(p2++[])),[],hW',?_,?_,rfl,hbelow.frame _,fun h=>by cases h⟩
 ·exact trodAll_mk1 (shut_bool Try.underlying4 true)
 ·exact trodAll_mk4 (shut_int Try.underlying5 wz) r1 r2 (shut_int Try.underlying83 wmo)
theorem stackRight_holds:Rows.StackRightSaid:=
 OpenClaim.holds_of_wide_leaving 11 Try.f11 rfl rfl rfl rfl rfl rfl rfl ⟨rfl,rfl,rfl,rfl,rfl⟩ rfl rfl rfl rfl rfl (by kernel_rfl) Try.func11 (by kernel_rfl)
  (of_decide_eq_true (by kernel_rfl)) (by unfold Func.isWrapper;first|(rw[if_pos (by decide +kernel)];kernel_rfl)|(rw[if_neg (by decide +kernel)];exact⟨rfl,rfl⟩))
  (fun os started H enc _=>kright_lifted os started H enc)
end
end Go.Proofs.Ytlcgkpapnpdfpaa
