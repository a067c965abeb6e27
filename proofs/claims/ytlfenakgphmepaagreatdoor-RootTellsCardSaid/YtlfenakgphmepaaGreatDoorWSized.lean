-- PRINTED BY print.sh 35421559b90ae4d0a3588c463048766b98c2df88dd9212a6774a882060cdf62d: not written by this session
import Derived.SizedLaws
import Derived.ChangeSlices
namespace Go.Proofs.YtlfenakgphmepaaGreatDoorW.PrintWords
open Go.ChangeShapes Go.WideShapes
end Go.Proofs.YtlfenakgphmepaaGreatDoorW.PrintWords
