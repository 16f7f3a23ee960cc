/-
  What the library's variables hold (the words are XAtoi's).
-/
import Derived.Test.YtgdahafokjdafaaGreatDoorAtoi
namespace Go.Proofs.YtgdahafokjdafaaGreatDoor
theorem env_here : True := trivial
end Go.Proofs.YtgdahafokjdafaaGreatDoor
