/-
  What the library's variables hold (the words are XAtoi's).
-/
import Derived.Test.YtojfhlppiicpbaaDoorAtoi
namespace Go.Proofs.YtojfhlppiicpbaaDoor
theorem env_here : True := trivial
end Go.Proofs.YtojfhlppiicpbaaDoor
