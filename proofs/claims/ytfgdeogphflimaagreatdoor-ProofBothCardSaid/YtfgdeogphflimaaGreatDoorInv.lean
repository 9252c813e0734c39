/- What holds of the program's own variables: the two tables of SHA-256. -/
import Derived.Test.YtfgdeogphflimaaGreatDoorPre
import Derived.Test.YtfgdeogphflimaaGreatDoorSha
namespace Go.Eng
open Go
structure Laid (w : World) : Prop where
  start : RowAt w 0 0 (flat [sgW startW])
  round : RowAt w 2 0 (flat [sgW roundW])
end Go.Eng
