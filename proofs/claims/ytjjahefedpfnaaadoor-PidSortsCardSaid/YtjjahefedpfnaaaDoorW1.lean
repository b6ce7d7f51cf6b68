import Derived.Test.YtjjahefedpfnaaaDoorBase
namespace Go.Proofs.YtjjahefedpfnaaaDoor
open Go.RowKit

end Go.Proofs.YtjjahefedpfnaaaDoor
