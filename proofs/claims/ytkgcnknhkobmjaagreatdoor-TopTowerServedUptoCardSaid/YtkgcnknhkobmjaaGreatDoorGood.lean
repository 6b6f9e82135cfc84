/-
  The seat's functions of Go's library that are given whole; what is asked of an oracle by the texts that follow.
-/
import Derived.Test.YtkgcnknhkobmjaaGreatDoorEvE
import Derived.Test.YtkgcnknhkobmjaaGreatDoorEvX
import Derived.Test.YtkgcnknhkobmjaaGreatDoorEvWn
import Derived.Test.YtkgcnknhkobmjaaGreatDoorCo
namespace Go.Proofs.YtkgcnknhkobmjaaGreatDoor.Co
open Go Go.Evl
def exts : List (Nat × (List V → Mem → Option (V × Mem))) :=
  (n_strconv_Itoa, itoaX) ::
  (n_strings_Builder_copyCheck, copyX ty_strings_Builder) ::
  (n_strings_Builder_String, stringX ty_strings_Builder ty_uint8) ::
  (n_slices_SortFunc_Lallocate_window_allocate_window, sortWX n_allocate_board_refusing_1) ::
  (n_strings_Repeat, repeatX) ::
  []
def ext : Extern := fun f => findC f exts
structure Good (E : Oracle) : Prop where
  lim : Lim code ext E
theorem exists_good : ∃ E, Good E := (exists_lim code ext).imp fun _ h => ⟨h⟩
end Go.Proofs.YtkgcnknhkobmjaaGreatDoor.Co
