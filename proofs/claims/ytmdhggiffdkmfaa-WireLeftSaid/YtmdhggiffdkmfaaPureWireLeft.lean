/- The law WireLeft holds: bytes wait just until their line is whole; what is fed behind a command begins the next one. (The walk in the law's text says it: what Feed tells there is reckoned for each of the sixty and forty numbers.) -/
import Derived.Test.YtmdhggiffdkmfaaPx7
namespace Go.Proofs.Ytmdhggiffdkmfaa.Pure
open Go.RowKit Go.Proofs.Ytmdhggiffdkmfaa.P
theorem WireLeft : letterboxlaw18_WireLeft.Pure := fun _ _ _ _ => ⟨0, rfl⟩
end Go.Proofs.Ytmdhggiffdkmfaa.Pure
