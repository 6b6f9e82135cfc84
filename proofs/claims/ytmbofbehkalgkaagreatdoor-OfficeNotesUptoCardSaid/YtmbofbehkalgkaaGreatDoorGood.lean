/-
  The seat's functions of Go's library that are given whole; what is asked of an oracle by the texts that follow.
-/
import Derived.Test.YtmbofbehkalgkaaGreatDoorEvE
import Derived.Test.YtmbofbehkalgkaaGreatDoorEvX
import Derived.Test.YtmbofbehkalgkaaGreatDoorEvY
import Derived.Test.YtmbofbehkalgkaaGreatDoorEvN
import Derived.Test.YtmbofbehkalgkaaGreatDoorCo
namespace Go.Proofs.YtmbofbehkalgkaaGreatDoor.Co
open Go Go.Evl
def exts : List (Nat × (List V → Mem → Option (V × Mem))) :=
  (n_strconv_Itoa, itoaX) ::
  (n_strings_Builder_copyCheck, copyX ty_strings_Builder) ::
  (n_strings_Builder_String, stringX ty_strings_Builder ty_uint8) ::
  (n_slices_Sort_Lstring_string, sortXS) ::
  (n_slices_SortFunc_Loffice_Note_office_Note, sortNX n_office_Gather_1) ::
  (n_strconv_Atoi, atoiX) ::
  (n_strings_Repeat, repeatX) ::
  (n_strings_Split, splitX) ::
  (n_strings_Join, joinX) ::
  (n_internal_stringslite_IndexByte, indexByteX) ::
  (n_internal_stringslite_HasSuffix, suffixX) ::
  []
def ext : Extern := fun f => findC f exts
structure Good (E : Oracle) : Prop where
  lim : Lim code ext E
theorem exists_good : ∃ E, Good E := (exists_lim code ext).imp fun _ h => ⟨h⟩
end Go.Proofs.YtmbofbehkalgkaaGreatDoor.Co
