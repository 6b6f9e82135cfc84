/-
  The seat's functions of Go's library that are given whole; what is asked of an oracle by the texts that follow.
-/
import Derived.Test.YtkflcbhclegghaaGreatDoorEvE
import Derived.Test.YtkflcbhclegghaaGreatDoorEvX
import Derived.Test.YtkflcbhclegghaaGreatDoorEvY
import Derived.Test.YtkflcbhclegghaaGreatDoorEvWn
import Derived.Test.YtkflcbhclegghaaGreatDoorEvK
import Derived.Test.YtkflcbhclegghaaGreatDoorCo
namespace Go.Proofs.YtkflcbhclegghaaGreatDoor.Co
open Go Go.Evl
def exts:List (Nat ×(List V→ Mem→ Option (V × Mem))):=
  (n_strconv_Itoa,itoaX)::
  (n_strings_Builder_copyCheck,copyX ty_strings_Builder)::
  (n_strings_Builder_String,stringX ty_strings_Builder ty_uint8)::
  (n_slices_Sort_Lstring_string,sortXS)::
  (n_slices_SortFunc_Lallocate_window_allocate_window,sortWX n_allocate_board_refusing_1)::
  (n_strconv_Atoi,atoiX)::
  (n_strings_Compare,compareX)::
  (n_strings_Split,splitX)::
  (n_strings_Join,joinX)::
  (n_internal_stringslite_IndexByte,indexByteX)::
  []
def ext:Extern:=λf=>findC f exts
structure Good(E:Oracle):Prop where
  lim:Lim code ext E
theorem exists_good:∃ E,Good E:=(exists_lim code ext).imp λ_ h=>⟨h⟩
end Go.Proofs.YtkflcbhclegghaaGreatDoor.Co
