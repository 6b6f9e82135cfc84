/-
  The seat's functions of Go's library that are given whole; what is asked of an oracle by the texts that follow.
-/
import Derived.Test.YtddpjjaebkaggabGreatDoorEvE
import Derived.Test.YtddpjjaebkaggabGreatDoorEvX
import Derived.Test.YtddpjjaebkaggabGreatDoorCo
namespace Go.Proofs.YtddpjjaebkaggabGreatDoor.Co
open Go Go.Evl
def exts : List (Nat × (List V → Mem → Option (V × Mem))) :=
  (n_strconv_Itoa, itoaX) ::
  (n_slices_Sort_Lint_int, sortX) ::
  (n_strconv_Atoi, atoiX) ::
  (n_strings_Trim, trimX) ::
  (n_internal_stringslite_IndexByte, indexByteX) ::
  []
def ext : Extern := fun f => findC f exts
structure Good (E : Oracle) : Prop where
  lim : Lim code ext E
theorem exists_good : ∃ E, Good E := (exists_lim code ext).imp fun _ h => ⟨h⟩
end Go.Proofs.YtddpjjaebkaggabGreatDoor.Co
