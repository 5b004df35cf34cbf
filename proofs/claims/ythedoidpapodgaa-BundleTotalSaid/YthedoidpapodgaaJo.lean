import Derived.Test.YthedoidpapodgaaJh
namespace Go.Proofs.Ythedoidpapodgaa
end Go.Proofs.Ythedoidpapodgaa
