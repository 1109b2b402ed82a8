/-
  THE LIBRARY'S DESCRIPTORS, and Find.
-/
import Derived.Test.YtpbpebjfglfjfaaGreatDoorXR
import Derived.Test.YtpbpebjfglfjfaaGreatDoorXS
set_option autoImplicit false
set_option linter.unusedVariables false
set_option linter.unusedSimpArgs false
set_option maxRecDepth 100000
namespace Go.Proofs.YtpbpebjfglfjfaaGreatDoor.X
open Go Go.Proofs Go.RowKit Go.Proofs.YtpbpebjfglfjfaaGreatDoor
noncomputable section
def libL : List GDescriptor := [
  ⟨⟨#[97, 98, 111, 118, 101]⟩, [], [⟨⟨#[97]⟩, ⟨#[85]⟩⟩, ⟨⟨#[98]⟩, ⟨#[85]⟩⟩], [⟨⟨#[111, 117, 116]⟩, ⟨#[98, 105, 110, 97, 114, 121]⟩⟩], 0, 1⟩,
  ⟨⟨#[97, 98, 115]⟩, [], [⟨⟨#[97]⟩, ⟨#[85]⟩⟩], [⟨⟨#[111, 117, 116]⟩, ⟨#[85]⟩⟩], 0, 1⟩,
  ⟨⟨#[97, 100, 100]⟩, [], [⟨⟨#[97]⟩, ⟨#[85]⟩⟩, ⟨⟨#[98]⟩, ⟨#[85]⟩⟩], [⟨⟨#[111, 117, 116]⟩, ⟨#[85]⟩⟩], 0, 1⟩,
  ⟨⟨#[97, 110, 100]⟩, [], [⟨⟨#[97]⟩, ⟨#[98, 105, 110, 97, 114, 121]⟩⟩, ⟨⟨#[98]⟩, ⟨#[98, 105, 110, 97, 114, 121]⟩⟩], [⟨⟨#[111, 117, 116]⟩, ⟨#[98, 105, 110, 97, 114, 121]⟩⟩], 0, 7⟩,
  ⟨⟨#[98, 101, 108, 111, 119]⟩, [], [⟨⟨#[97]⟩, ⟨#[85]⟩⟩, ⟨⟨#[98]⟩, ⟨#[85]⟩⟩], [⟨⟨#[111, 117, 116]⟩, ⟨#[98, 105, 110, 97, 114, 121]⟩⟩], 0, 1⟩,
  ⟨⟨#[99, 104, 111, 111, 115, 101]⟩, [], [⟨⟨#[109]⟩, ⟨#[109, 117, 108, 116, 105]⟩⟩, ⟨⟨#[97]⟩, ⟨#[84]⟩⟩], [⟨⟨#[111, 117, 116]⟩, ⟨#[84]⟩⟩], 0, 7⟩,
  ⟨⟨#[99, 111, 117, 110, 116]⟩, [], [⟨⟨#[97]⟩, ⟨#[98, 105, 110, 97, 114, 121]⟩⟩, ⟨⟨#[114, 101, 115, 101, 116]⟩, ⟨#[98, 105, 110, 97, 114, 121]⟩⟩], [⟨⟨#[111, 117, 116]⟩, ⟨#[97, 110, 97, 108, 111, 103]⟩⟩], 2, 1⟩,
  ⟨⟨#[100, 101, 119, 112, 111, 105, 110, 116]⟩, [], [⟨⟨#[116]⟩, ⟨#[97, 110, 97, 108, 111, 103, 32, 100, 101, 103, 67]⟩⟩, ⟨⟨#[114, 104]⟩, ⟨#[97, 110, 97, 108, 111, 103, 32, 112, 99, 116]⟩⟩], [⟨⟨#[111, 117, 116]⟩, ⟨#[97, 110, 97, 108, 111, 103, 32, 100, 101, 103, 67]⟩⟩], 0, 1⟩,
  ⟨⟨#[100, 105, 118]⟩, [], [⟨⟨#[97]⟩, ⟨#[85]⟩⟩, ⟨⟨#[98]⟩, ⟨#[86]⟩⟩], [⟨⟨#[111, 117, 116]⟩, ⟨#[85, 47, 86]⟩⟩], 0, 1⟩,
  ⟨⟨#[101, 100, 103, 101]⟩, [], [⟨⟨#[97]⟩, ⟨#[98, 105, 110, 97, 114, 121]⟩⟩], [⟨⟨#[111, 117, 116]⟩, ⟨#[98, 105, 110, 97, 114, 121]⟩⟩], 1, 1⟩,
  ⟨⟨#[101, 110, 116, 104, 97, 108, 112, 121]⟩, [], [⟨⟨#[116]⟩, ⟨#[97, 110, 97, 108, 111, 103, 32, 100, 101, 103, 67]⟩⟩, ⟨⟨#[114, 104]⟩, ⟨#[97, 110, 97, 108, 111, 103, 32, 112, 99, 116]⟩⟩], [⟨⟨#[111, 117, 116]⟩, ⟨#[97, 110, 97, 108, 111, 103, 32, 107, 74, 47, 107, 103]⟩⟩], 0, 1⟩,
  ⟨⟨#[104, 121, 115, 116]⟩, [⟨⟨#[111, 110]⟩, -1000000000000, 1000000000000, 1000⟩, ⟨⟨#[111, 102, 102]⟩, -1000000000000, 1000000000000, 0⟩], [⟨⟨#[97]⟩, ⟨#[85]⟩⟩], [⟨⟨#[111, 117, 116]⟩, ⟨#[98, 105, 110, 97, 114, 121]⟩⟩], 1, 1⟩,
  ⟨⟨#[108, 97, 116, 99, 104]⟩, [], [⟨⟨#[115, 101, 116]⟩, ⟨#[98, 105, 110, 97, 114, 121]⟩⟩, ⟨⟨#[114, 101, 115, 101, 116]⟩, ⟨#[98, 105, 110, 97, 114, 121]⟩⟩], [⟨⟨#[111, 117, 116]⟩, ⟨#[98, 105, 110, 97, 114, 121]⟩⟩], 1, 1⟩,
  ⟨⟨#[108, 105, 109, 105, 116]⟩, [⟨⟨#[108, 111, 119]⟩, -1000000000000, 1000000000000, -1000000000000⟩, ⟨⟨#[104, 105, 103, 104]⟩, -1000000000000, 1000000000000, 1000000000000⟩], [⟨⟨#[97]⟩, ⟨#[85]⟩⟩], [⟨⟨#[111, 117, 116]⟩, ⟨#[85]⟩⟩], 0, 1⟩,
  ⟨⟨#[108, 105, 110, 101]⟩, [⟨⟨#[120, 49]⟩, -1000000000000, 1000000000000, 0⟩, ⟨⟨#[121, 49]⟩, -1000000000000, 1000000000000, 0⟩, ⟨⟨#[120, 50]⟩, -1000000000000, 1000000000000, 100000⟩, ⟨⟨#[121, 50]⟩, -1000000000000, 1000000000000, 100000⟩], [⟨⟨#[97]⟩, ⟨#[85]⟩⟩], [⟨⟨#[111, 117, 116]⟩, ⟨#[97, 110, 97, 108, 111, 103]⟩⟩], 0, 1⟩,
  ⟨⟨#[109, 97, 120]⟩, [], [⟨⟨#[97]⟩, ⟨#[85]⟩⟩, ⟨⟨#[98]⟩, ⟨#[85]⟩⟩], [⟨⟨#[111, 117, 116]⟩, ⟨#[85]⟩⟩], 0, 1⟩,
  ⟨⟨#[109, 101, 97, 110]⟩, [], [⟨⟨#[97]⟩, ⟨#[85]⟩⟩, ⟨⟨#[98]⟩, ⟨#[85]⟩⟩], [⟨⟨#[111, 117, 116]⟩, ⟨#[85]⟩⟩], 0, 7⟩,
  ⟨⟨#[109, 105, 110]⟩, [], [⟨⟨#[97]⟩, ⟨#[85]⟩⟩, ⟨⟨#[98]⟩, ⟨#[85]⟩⟩], [⟨⟨#[111, 117, 116]⟩, ⟨#[85]⟩⟩], 0, 1⟩,
  ⟨⟨#[109, 105, 110, 114, 117, 110]⟩, [⟨⟨#[111, 110]⟩, 0, 86400, 0⟩, ⟨⟨#[111, 102, 102]⟩, 0, 86400, 0⟩], [⟨⟨#[97]⟩, ⟨#[98, 105, 110, 97, 114, 121]⟩⟩], [⟨⟨#[111, 117, 116]⟩, ⟨#[98, 105, 110, 97, 114, 121]⟩⟩], 2, 1⟩,
  ⟨⟨#[109, 117, 108]⟩, [], [⟨⟨#[97]⟩, ⟨#[85]⟩⟩, ⟨⟨#[98]⟩, ⟨#[86]⟩⟩], [⟨⟨#[111, 117, 116]⟩, ⟨#[85, 42, 86]⟩⟩], 0, 1⟩,
  ⟨⟨#[110, 101, 103]⟩, [], [⟨⟨#[97]⟩, ⟨#[85]⟩⟩], [⟨⟨#[111, 117, 116]⟩, ⟨#[85]⟩⟩], 0, 1⟩,
  ⟨⟨#[110, 111, 116]⟩, [], [⟨⟨#[97]⟩, ⟨#[98, 105, 110, 97, 114, 121]⟩⟩], [⟨⟨#[111, 117, 116]⟩, ⟨#[98, 105, 110, 97, 114, 121]⟩⟩], 0, 1⟩,
  ⟨⟨#[111, 102, 102, 100, 101, 108, 97, 121]⟩, [⟨⟨#[116, 105, 109, 101]⟩, 0, 86400, 0⟩], [⟨⟨#[97]⟩, ⟨#[98, 105, 110, 97, 114, 121]⟩⟩], [⟨⟨#[111, 117, 116]⟩, ⟨#[98, 105, 110, 97, 114, 121]⟩⟩], 1, 1⟩,
  ⟨⟨#[111, 110, 100, 101, 108, 97, 121]⟩, [⟨⟨#[116, 105, 109, 101]⟩, 0, 86400, 0⟩], [⟨⟨#[97]⟩, ⟨#[98, 105, 110, 97, 114, 121]⟩⟩], [⟨⟨#[111, 117, 116]⟩, ⟨#[98, 105, 110, 97, 114, 121]⟩⟩], 1, 1⟩,
  ⟨⟨#[111, 114]⟩, [], [⟨⟨#[97]⟩, ⟨#[98, 105, 110, 97, 114, 121]⟩⟩, ⟨⟨#[98]⟩, ⟨#[98, 105, 110, 97, 114, 121]⟩⟩], [⟨⟨#[111, 117, 116]⟩, ⟨#[98, 105, 110, 97, 114, 121]⟩⟩], 0, 7⟩,
  ⟨⟨#[112, 105, 99, 107]⟩, [], [⟨⟨#[115]⟩, ⟨#[98, 105, 110, 97, 114, 121]⟩⟩, ⟨⟨#[97]⟩, ⟨#[84]⟩⟩, ⟨⟨#[98]⟩, ⟨#[84]⟩⟩], [⟨⟨#[111, 117, 116]⟩, ⟨#[84]⟩⟩], 0, 1⟩,
  ⟨⟨#[112, 105, 100]⟩, [⟨⟨#[107, 112]⟩, 0, 1000000000, 1000⟩, ⟨⟨#[116, 105]⟩, 0, 86400, 0⟩, ⟨⟨#[108, 111, 119]⟩, -1000000000000, 1000000000000, 0⟩, ⟨⟨#[104, 105, 103, 104]⟩, -1000000000000, 1000000000000, 100000⟩, ⟨⟨#[114, 101, 118, 101, 114, 115, 101]⟩, 0, 1, 0⟩], [⟨⟨#[115, 101, 116]⟩, ⟨#[85]⟩⟩, ⟨⟨#[110, 111, 119]⟩, ⟨#[85]⟩⟩, ⟨⟨#[101, 110, 97, 98, 108, 101]⟩, ⟨#[98, 105, 110, 97, 114, 121]⟩⟩], [⟨⟨#[111, 117, 116]⟩, ⟨#[97, 110, 97, 108, 111, 103, 32, 112, 99, 116]⟩⟩], 3, 1⟩,
  ⟨⟨#[112, 117, 108, 115, 101]⟩, [⟨⟨#[116, 105, 109, 101]⟩, 0, 86400, 0⟩], [⟨⟨#[97]⟩, ⟨#[98, 105, 110, 97, 114, 121]⟩⟩], [⟨⟨#[111, 117, 116]⟩, ⟨#[98, 105, 110, 97, 114, 121]⟩⟩], 2, 1⟩,
  ⟨⟨#[114, 97, 116, 101]⟩, [⟨⟨#[117, 112]⟩, 0, 1000000000000, 1000⟩, ⟨⟨#[100, 111, 119, 110]⟩, 0, 1000000000000, 1000⟩], [⟨⟨#[97]⟩, ⟨#[85]⟩⟩], [⟨⟨#[111, 117, 116]⟩, ⟨#[85]⟩⟩], 2, 1⟩,
  ⟨⟨#[115, 116, 97, 103, 101]⟩, [⟨⟨#[115, 116, 97, 103, 101, 115]⟩, 1, 15, 1⟩, ⟨⟨#[117, 112]⟩, -1000000000000, 1000000000000, 0⟩, ⟨⟨#[100, 111, 119, 110]⟩, -1000000000000, 1000000000000, 0⟩, ⟨⟨#[117, 112, 100, 101, 108, 97, 121]⟩, 0, 86400, 0⟩, ⟨⟨#[100, 111, 119, 110, 100, 101, 108, 97, 121]⟩, 0, 86400, 0⟩], [⟨⟨#[97]⟩, ⟨#[85]⟩⟩], [⟨⟨#[111, 117, 116]⟩, ⟨#[109, 117, 108, 116, 105]⟩⟩], 2, 1⟩,
  ⟨⟨#[115, 116, 101, 112, 115]⟩, [⟨⟨#[99, 111, 117, 110, 116]⟩, 1, 15, 1⟩, ⟨⟨#[108, 101, 97, 115, 116]⟩, 0, 86400, 0⟩], [⟨⟨#[103, 111]⟩, ⟨#[98, 105, 110, 97, 114, 121]⟩⟩, ⟨⟨#[110, 101, 120, 116]⟩, ⟨#[98, 105, 110, 97, 114, 121]⟩⟩], [⟨⟨#[111, 117, 116]⟩, ⟨#[109, 117, 108, 116, 105]⟩⟩], 2, 1⟩,
  ⟨⟨#[115, 117, 98]⟩, [], [⟨⟨#[97]⟩, ⟨#[85]⟩⟩, ⟨⟨#[98]⟩, ⟨#[85]⟩⟩], [⟨⟨#[111, 117, 116]⟩, ⟨#[85]⟩⟩], 0, 1⟩,
  ⟨⟨#[120, 111, 114]⟩, [], [⟨⟨#[97]⟩, ⟨#[98, 105, 110, 97, 114, 121]⟩⟩, ⟨⟨#[98]⟩, ⟨#[98, 105, 110, 97, 114, 121]⟩⟩], [⟨⟨#[111, 117, 116]⟩, ⟨#[98, 105, 110, 97, 114, 121]⟩⟩], 0, 1⟩]
def rowsL : List ByteArray := [
  ⟨#[97, 98, 111, 118, 101, 124, 97, 58, 85, 32, 98, 58, 85, 124, 124, 98, 105, 110, 97, 114, 121, 124, 48, 124, 49]⟩,
  ⟨#[97, 98, 115, 124, 97, 58, 85, 124, 124, 85, 124, 48, 124, 49]⟩,
  ⟨#[97, 100, 100, 124, 97, 58, 85, 32, 98, 58, 85, 124, 124, 85, 124, 48, 124, 49]⟩,
  ⟨#[97, 110, 100, 124, 97, 58, 98, 105, 110, 97, 114, 121, 32, 98, 58, 98, 105, 110, 97, 114, 121, 124, 124, 98, 105, 110, 97, 114, 121, 124, 48, 124, 55]⟩,
  ⟨#[98, 101, 108, 111, 119, 124, 97, 58, 85, 32, 98, 58, 85, 124, 124, 98, 105, 110, 97, 114, 121, 124, 48, 124, 49]⟩,
  ⟨#[99, 104, 111, 111, 115, 101, 124, 109, 58, 109, 117, 108, 116, 105, 32, 97, 58, 84, 124, 124, 84, 124, 48, 124, 55]⟩,
  ⟨#[99, 111, 117, 110, 116, 124, 97, 58, 98, 105, 110, 97, 114, 121, 32, 114, 101, 115, 101, 116, 58, 98, 105, 110, 97, 114, 121, 124, 124, 97, 110, 97, 108, 111, 103, 124, 50, 124, 49]⟩,
  ⟨#[100, 101, 119, 112, 111, 105, 110, 116, 124, 116, 58, 97, 110, 97, 108, 111, 103, 95, 100, 101, 103, 67, 32, 114, 104, 58, 97, 110, 97, 108, 111, 103, 95, 112, 99, 116, 124, 124, 97, 110, 97, 108, 111, 103, 95, 100, 101, 103, 67, 124, 48, 124, 49]⟩,
  ⟨#[100, 105, 118, 124, 97, 58, 85, 32, 98, 58, 86, 124, 124, 85, 47, 86, 124, 48, 124, 49]⟩,
  ⟨#[101, 100, 103, 101, 124, 97, 58, 98, 105, 110, 97, 114, 121, 124, 124, 98, 105, 110, 97, 114, 121, 124, 49, 124, 49]⟩,
  ⟨#[101, 110, 116, 104, 97, 108, 112, 121, 124, 116, 58, 97, 110, 97, 108, 111, 103, 95, 100, 101, 103, 67, 32, 114, 104, 58, 97, 110, 97, 108, 111, 103, 95, 112, 99, 116, 124, 124, 97, 110, 97, 108, 111, 103, 95, 107, 74, 47, 107, 103, 124, 48, 124, 49]⟩,
  ⟨#[104, 121, 115, 116, 124, 97, 58, 85, 124, 111, 110, 58, 45, 77, 58, 77, 58, 49, 48, 48, 48, 32, 111, 102, 102, 58, 45, 77, 58, 77, 58, 48, 124, 98, 105, 110, 97, 114, 121, 124, 49, 124, 49]⟩,
  ⟨#[108, 97, 116, 99, 104, 124, 115, 101, 116, 58, 98, 105, 110, 97, 114, 121, 32, 114, 101, 115, 101, 116, 58, 98, 105, 110, 97, 114, 121, 124, 124, 98, 105, 110, 97, 114, 121, 124, 49, 124, 49]⟩,
  ⟨#[108, 105, 109, 105, 116, 124, 97, 58, 85, 124, 108, 111, 119, 58, 45, 77, 58, 77, 58, 45, 77, 32, 104, 105, 103, 104, 58, 45, 77, 58, 77, 58, 77, 124, 85, 124, 48, 124, 49]⟩,
  ⟨#[108, 105, 110, 101, 124, 97, 58, 85, 124, 120, 49, 58, 45, 77, 58, 77, 58, 48, 32, 121, 49, 58, 45, 77, 58, 77, 58, 48, 32, 120, 50, 58, 45, 77, 58, 77, 58, 49, 48, 48, 48, 48, 48, 32, 121, 50, 58, 45, 77, 58, 77, 58, 49, 48, 48, 48, 48, 48, 124, 97, 110, 97, 108, 111, 103, 124, 48, 124, 49]⟩,
  ⟨#[109, 97, 120, 124, 97, 58, 85, 32, 98, 58, 85, 124, 124, 85, 124, 48, 124, 49]⟩,
  ⟨#[109, 101, 97, 110, 124, 97, 58, 85, 32, 98, 58, 85, 124, 124, 85, 124, 48, 124, 55]⟩,
  ⟨#[109, 105, 110, 124, 97, 58, 85, 32, 98, 58, 85, 124, 124, 85, 124, 48, 124, 49]⟩,
  ⟨#[109, 105, 110, 114, 117, 110, 124, 97, 58, 98, 105, 110, 97, 114, 121, 124, 111, 110, 58, 48, 58, 68, 58, 48, 32, 111, 102, 102, 58, 48, 58, 68, 58, 48, 124, 98, 105, 110, 97, 114, 121, 124, 50, 124, 49]⟩,
  ⟨#[109, 117, 108, 124, 97, 58, 85, 32, 98, 58, 86, 124, 124, 85, 42, 86, 124, 48, 124, 49]⟩,
  ⟨#[110, 101, 103, 124, 97, 58, 85, 124, 124, 85, 124, 48, 124, 49]⟩,
  ⟨#[110, 111, 116, 124, 97, 58, 98, 105, 110, 97, 114, 121, 124, 124, 98, 105, 110, 97, 114, 121, 124, 48, 124, 49]⟩,
  ⟨#[111, 102, 102, 100, 101, 108, 97, 121, 124, 97, 58, 98, 105, 110, 97, 114, 121, 124, 116, 105, 109, 101, 58, 48, 58, 68, 58, 48, 124, 98, 105, 110, 97, 114, 121, 124, 49, 124, 49]⟩,
  ⟨#[111, 110, 100, 101, 108, 97, 121, 124, 97, 58, 98, 105, 110, 97, 114, 121, 124, 116, 105, 109, 101, 58, 48, 58, 68, 58, 48, 124, 98, 105, 110, 97, 114, 121, 124, 49, 124, 49]⟩,
  ⟨#[111, 114, 124, 97, 58, 98, 105, 110, 97, 114, 121, 32, 98, 58, 98, 105, 110, 97, 114, 121, 124, 124, 98, 105, 110, 97, 114, 121, 124, 48, 124, 55]⟩,
  ⟨#[112, 105, 99, 107, 124, 115, 58, 98, 105, 110, 97, 114, 121, 32, 97, 58, 84, 32, 98, 58, 84, 124, 124, 84, 124, 48, 124, 49]⟩,
  ⟨#[112, 105, 100, 124, 115, 101, 116, 58, 85, 32, 110, 111, 119, 58, 85, 32, 101, 110, 97, 98, 108, 101, 58, 98, 105, 110, 97, 114, 121, 124, 107, 112, 58, 48, 58, 49, 48, 48, 48, 48, 48, 48, 48, 48, 48, 58, 49, 48, 48, 48, 32, 116, 105, 58, 48, 58, 68, 58, 48, 32, 108, 111, 119, 58, 45, 77, 58, 77, 58, 48, 32, 104, 105, 103, 104, 58, 45, 77, 58, 77, 58, 49, 48, 48, 48, 48, 48, 32, 114, 101, 118, 101, 114, 115, 101, 58, 48, 58, 49, 58, 48, 124, 97, 110, 97, 108, 111, 103, 95, 112, 99, 116, 124, 51, 124, 49]⟩,
  ⟨#[112, 117, 108, 115, 101, 124, 97, 58, 98, 105, 110, 97, 114, 121, 124, 116, 105, 109, 101, 58, 48, 58, 68, 58, 48, 124, 98, 105, 110, 97, 114, 121, 124, 50, 124, 49]⟩,
  ⟨#[114, 97, 116, 101, 124, 97, 58, 85, 124, 117, 112, 58, 48, 58, 77, 58, 49, 48, 48, 48, 32, 100, 111, 119, 110, 58, 48, 58, 77, 58, 49, 48, 48, 48, 124, 85, 124, 50, 124, 49]⟩,
  ⟨#[115, 116, 97, 103, 101, 124, 97, 58, 85, 124, 115, 116, 97, 103, 101, 115, 58, 49, 58, 49, 53, 58, 49, 32, 117, 112, 58, 45, 77, 58, 77, 58, 48, 32, 100, 111, 119, 110, 58, 45, 77, 58, 77, 58, 48, 32, 117, 112, 100, 101, 108, 97, 121, 58, 48, 58, 68, 58, 48, 32, 100, 111, 119, 110, 100, 101, 108, 97, 121, 58, 48, 58, 68, 58, 48, 124, 109, 117, 108, 116, 105, 124, 50, 124, 49]⟩,
  ⟨#[115, 116, 101, 112, 115, 124, 103, 111, 58, 98, 105, 110, 97, 114, 121, 32, 110, 101, 120, 116, 58, 98, 105, 110, 97, 114, 121, 124, 99, 111, 117, 110, 116, 58, 49, 58, 49, 53, 58, 49, 32, 108, 101, 97, 115, 116, 58, 48, 58, 68, 58, 48, 124, 109, 117, 108, 116, 105, 124, 50, 124, 49]⟩,
  ⟨#[115, 117, 98, 124, 97, 58, 85, 32, 98, 58, 85, 124, 124, 85, 124, 48, 124, 49]⟩,
  ⟨#[120, 111, 114, 124, 97, 58, 98, 105, 110, 97, 114, 121, 32, 98, 58, 98, 105, 110, 97, 114, 121, 124, 124, 98, 105, 110, 97, 114, 121, 124, 48, 124, 49]⟩]
def conLib : CON := fun l => match l with | [] => some (true, (.own 0, [(0, .row 150 libL false)])) | _ => none
theorem run_lib : runF C0 100 157 [] = some (.own 0, [(0, .row 150 libL false)]) := by kernel_rfl
theorem okLib : OK 157 conLib := ok_run C0_ok (by kernel_rfl) fun l r h => by
  cases l with
  | nil => exact ⟨100, run_lib.trans (congrArg some (some_pair h).2)⟩
  | cons x l => cases h
def desV (d : GDescriptor) : VT := .agg (enc150 d)
def des0 : VT := .agg [.str ⟨#[]⟩, .nils, .nils, .nils, .int .i64 0, .int .i64 0]
def findR : List GDescriptor → ByteArray → Option (Res At) := fun l n => List.rec (motive := fun _ => Option (Res At)) (some (.tup [des0, .bool false], [])) (fun d _ ih => if eqB d.name n = true then some (.tup [desV d, .bool true], []) else ih) l
def lib1 : List (Nat × CON) := (157, conLib) :: lib0
theorem lib1_ok : AllOK lib1 := .cons okLib lib0_ok
def C1 : Cfg := { cs := lib1 }
theorem C1_ok : CfgOK C1 := { con := lib1_ok }
theorem run_refFind (n : ByteArray) : runF C1 200 126 [.str n] = findR libL n := by kernel_rfl
def tabL : List (ByteArray × GDescriptor) := rowsL.zip libL
def descOf (l : List (ByteArray × GDescriptor)) (r : ByteArray) : Option GDescriptor := List.rec (motive := fun _ => Option GDescriptor) none (fun p _ ih => if eqB p.1 r = true then some p.2 else ih) l
theorem descOf_mem : ∀ {l : List (ByteArray × GDescriptor)} {r : ByteArray} {d : GDescriptor}, descOf l r = some d → (r, d) ∈ l
  | [], r, d, h => by cases h
  | p :: l, r, d, h => by
    replace h : (if eqB p.1 r = true then some p.2 else descOf l r) = some d := h
    split at h
    · rename_i e
      rw [eqB_iff] at e
      obtain rfl := of_decide_eq_true e
      obtain rfl := Option.some.inj h
      exact List.mem_cons_self ..
    · exact List.mem_cons_of_mem _ (descOf_mem h)
def runDesc (r : ByteArray) : Option (Res At) := coRes TT [some 150] (shutRes (runF C0 200 156 [.str r]))
theorem run_desc : tabL.map (fun p => runDesc p.1) = tabL.map fun p => some (desV p.2, []) := by kernel_rfl
def conDesc : CON := onS fun r => match descOf tabL r with | some d => some (true, (desV d, [])) | none => none
theorem okDesc : OK 156 conDesc := by
  refine ok_co (E := mkE C0) TT_ok (body_ok (E := mkE C0) (good C0_ok) (f := 156) (fn := (bodyT 156).getD default) (c := codeOf 156) (by rfl) (by rfl) 200) [some 150] fun l r h => ?_
  replace h := onS_spec (conO_some h)
  obtain ⟨a, rfl, h⟩ := h
  split at h
  · rename_i d hd
    obtain ⟨_, rfl⟩ := some_pair h
    exact List.map_inj_left.1 run_desc _ (descOf_mem hd)
  · cases h
end
end Go.Proofs.YtpbpebjfglfjfaaGreatDoor.X
/-! Find of the program: the loop over the table's rows. -/
namespace Go.Proofs.YtpbpebjfglfjfaaGreatDoor.X
open Go Go.Proofs Go.RowKit Go.Proofs.YtpbpebjfglfjfaaGreatDoor
noncomputable section
def C24 : Cfg := { cs := (156, conDesc) :: lib0, ks := [((116, 2), [(0, none), (2, none), (3, none), (6, none), (7, none), (8, none)])], xs := [((116, 2), [(2, none), (3, none)])] }
theorem C24_ok : CfgOK C24 := { con := .cons okDesc lib0_ok }
def des0L : List VT := [.str ⟨#[]⟩, .nils, .nils, .nils, .int .i64 0, .int .i64 0]
def S24 (n : ByteArray) (i : Nat) : St At := { env := [(0, .str n), (2, .ptr 0 0), (3, .int .i64 0), (6, .own 1), (7, .int .i64 33), (8, .int .i64 (i : Int))], stk := [], hp := [(0, .var des0L false), (1, .row 9 rowsL false)], nx := 2 }
def X24 (d : List VT) (e : Int) : St At := { env := [(2, .ptr 0 0), (3, .int .i64 e)], stk := [], hp := [(0, .var d false)], nx := 1 }
def bar : ByteArray := ⟨#[124]⟩
def gd0 : GDescriptor := ⟨⟨#[]⟩, [], [], [], 0, 0⟩
def F24 (n : ByteArray) (p : ByteArray × GDescriptor) (next : Option (Res At)) (K : Xit → St At → Option (Res At)) : Option (Res At) :=
  if n.size + 1 < 4611686018427387904 then
    (if Lib.hasPrefix p.1.data.toList (catB n bar).data.toList = true then
      (if (!List.elem 124 n.data.toList) = true then K .ret (X24 (enc150 p.2) 0) else next)
     else next)
  else none
theorem st24 (n : ByteArray) (m : Nat) (R : St At → Option (Res At)) (K : Xit → St At → Option (Res At)) : ∀ i, i < 33 → B C24 116 2 (m + 60) (S24 n i) R K = F24 n (tabL.getD i (⟨#[]⟩, gd0)) (R (S24 n (i + 1))) K
  | 0, _ => by kernel_rfl
  | 1, _ => by kernel_rfl
  | 2, _ => by kernel_rfl
  | 3, _ => by kernel_rfl
  | 4, _ => by kernel_rfl
  | 5, _ => by kernel_rfl
  | 6, _ => by kernel_rfl
  | 7, _ => by kernel_rfl
  | 8, _ => by kernel_rfl
  | 9, _ => by kernel_rfl
  | 10, _ => by kernel_rfl
  | 11, _ => by kernel_rfl
  | 12, _ => by kernel_rfl
  | 13, _ => by kernel_rfl
  | 14, _ => by kernel_rfl
  | 15, _ => by kernel_rfl
  | 16, _ => by kernel_rfl
  | 17, _ => by kernel_rfl
  | 18, _ => by kernel_rfl
  | 19, _ => by kernel_rfl
  | 20, _ => by kernel_rfl
  | 21, _ => by kernel_rfl
  | 22, _ => by kernel_rfl
  | 23, _ => by kernel_rfl
  | 24, _ => by kernel_rfl
  | 25, _ => by kernel_rfl
  | 26, _ => by kernel_rfl
  | 27, _ => by kernel_rfl
  | 28, _ => by kernel_rfl
  | 29, _ => by kernel_rfl
  | 30, _ => by kernel_rfl
  | 31, _ => by kernel_rfl
  | 32, _ => by kernel_rfl
  | i + 33, h => absurd h (by omega)
theorem st24e (n : ByteArray) (m : Nat) (R : St At → Option (Res At)) (K : Xit → St At → Option (Res At)) : B C24 116 2 (m + 60) (S24 n 33) R K = K (.ex 0) (X24 des0L 0) := by kernel_rfl
theorem hd24 (n : ByteArray) (i : Nat) : headV (mkE C24) 116 (codeAt 116 2) (S24 n i) = S24 n i := by kernel_rfl
def find24 (n : ByteArray) (K : Xit → St At → Option (Res At)) (l : List (ByteArray × GDescriptor)) : Option (Res At) := List.rec (motive := fun _ => Option (Res At)) (K (.ex 0) (X24 des0L 0)) (fun p _ ih => F24 n p ih K) l
theorem loop24 (n : ByteArray) (K : Xit → St At → Option (Res At)) : ∀ (k i : Nat), i + k = 33 → L C24 116 2 (k + 61) (S24 n i) K = find24 n K (tabL.drop i)
  | 0, i, h => by
    obtain rfl : i = 33 := by omega
    rw [show (0 + 61 : Nat) = (0 + 60) + 1 from rfl, L_succ (by kernel_rfl) (hd24 n 33), st24e]
    rfl
  | k + 1, i, h => by
    have hi : i < 33 := by omega
    rw [show k + 1 + 61 = ((k + 1) + 60) + 1 by omega, L_succ (by kernel_rfl) (hd24 n i), st24 n (k + 1) _ K i hi]
    have e : k + 1 + 60 = k + 61 := by omega
    rw [e, loop24 n K k (i + 1) (by omega)]
    have hl : tabL.length = 33 := by kernel_rfl
    rw [List.drop_eq_getElem_cons (show i < tabL.length by omega)]
    show F24 n _ _ K = F24 n _ _ K
    rw [List.getD_eq_getElem?_getD, List.getElem?_eq_getElem (show i < tabL.length by omega)]
    rfl
def eqLB (a : List ByteArray) : List ByteArray → Bool := List.rec (motive := fun _ => List ByteArray → Bool) (fun b => match b with | [] => true | _ :: _ => false) (fun x _ ih b => match b with | [] => false | y :: b => eqB x y && ih b) a
theorem eqLB_spec : ∀ {a b : List ByteArray}, eqLB a b = true → a = b
  | [], [], _ => rfl
  | [], _ :: _, h => by cases h
  | _ :: _, [], h => by cases h
  | x :: a, y :: b, h => by
    replace h : (eqB x y && eqLB a b) = true := h
    rw [Bool.and_eq_true, eqB_iff] at h
    rw [of_decide_eq_true h.1, eqLB_spec h.2]
def rows9 (b : Option (Blk At)) : Option (List ByteArray) := match b with | some (.row e l false) => (if h : e = 9 then some (h ▸ l : List (At 9)) else none) | _ => none
def u24 (st : St At) : Option ByteArray := match st with
  | ⟨[(0, .str n), (2, .ptr 0 0), (3, .int .i64 0), (6, .own 1), (7, .int .i64 33), (8, .int .i64 0)], [], [(0, .var [.str z, .nils, .nils, .nils, .int .i64 0, .int .i64 0] false), (1, b)], 2⟩ => (match rows9 (some b), eqB z ⟨#[]⟩ with | some l, true => (match eqLB l rowsL with | true => some n | false => none) | _, _ => none)
  | _ => none
theorem rows9_spec {b : Option (Blk At)} {l : List ByteArray} (h : rows9 b = some l) : b = some (.row 9 l false) := by
  unfold rows9 at h
  split at h
  · split at h
    · rename_i e
      subst e
      obtain rfl := Option.some.inj h
      rfl
    · cases h
  · cases h
theorem u24_spec {st : St At} {n : ByteArray} (h : u24 st = some n) : st = S24 n 0 := by
  unfold u24 at h
  split at h
  · split at h
    · rename_i l hr hz
      split at h
      · rename_i hl
        obtain rfl := Option.some.inj h
        have h1 := rows9_spec hr
        rw [eqB_iff] at hz
        have h2 := of_decide_eq_true hz
        have h3 := eqLB_spec hl
        simp only [Option.some.injEq] at h1
        subst h1; subst h2; subst h3
        rfl
      · cases h
    · cases h
  · cases h
def g24 : LP := fun st K => match u24 st with | some n => find24 n K tabL | none => none
theorem okg24 : OKL 116 2 g24 := okl_run C24_ok (by kernel_rfl) fun st K q h => by
  unfold g24 at h
  split at h
  · rename_i n hu
    rw [u24_spec hu]
    exact ⟨33 + 61, (loop24 n K 33 0 rfl).trans h⟩
  · cases h
def C24' : Cfg := { cs := C24.cs, ks := C24.ks, xs := C24.xs, lps := [((116, 2), g24)] }
theorem C24'_ok : CfgOK C24' := { con := C24_ok.con, lp := .cons okg24 .nil }
def findP (n : ByteArray) (l : List (ByteArray × GDescriptor)) : Option (Res At) := List.rec (motive := fun _ => Option (Res At)) (some (.tup [.agg des0L, .int .i64 3], [])) (fun p _ ih => 
  if n.size + 1 < 4611686018427387904 then
    (if Lib.hasPrefix p.1.data.toList (catB n bar).data.toList = true then
      (if (!List.elem 124 n.data.toList) = true then some (.tup [desV p.2, .int .i64 0], []) else ih)
     else ih)
  else none) l
theorem run_find (n : ByteArray) : runF C24' 60 116 [.str n] = findP n tabL := by kernel_rfl
end
end Go.Proofs.YtpbpebjfglfjfaaGreatDoor.X
/-! Find, as a plain law. -/
namespace Go.Proofs.YtpbpebjfglfjfaaGreatDoor.X
open Go Go.Proofs Go.RowKit Go.Proofs.YtpbpebjfglfjfaaGreatDoor
noncomputable section
def findD (n : ByteArray) (l : List GDescriptor) : Option GDescriptor := List.rec (motive := fun _ => Option GDescriptor) none (fun d _ ih => if eqB d.name n = true then some d else ih) l
def orD (o : Option GDescriptor) : GDescriptor := match o with | some d => d | none => gd0
def isD (o : Option GDescriptor) : Bool := match o with | some _ => true | none => false
def erD (o : Option GDescriptor) : Int := match o with | some _ => 0 | none => 3
def crD (z : Option (Res At)) : Option (Res At) := coRes TT [some 150] (shutRes z)
theorem findR_eq (n : ByteArray) : ∀ l : List GDescriptor, crD (findR l n) = some (.tup [.agg (enc150 (orD (findD n l))), .bool (isD (findD n l))], [])
  | [] => rfl
  | d :: l => by
    show crD (if eqB d.name n = true then some (.tup [desV d, .bool true], []) else findR l n) = some (.tup [.agg (enc150 (orD (if eqB d.name n = true then some d else findD n l))), .bool (isD (if eqB d.name n = true then some d else findD n l))], [])
    by_cases h : eqB d.name n = true
    · rw [if_pos h, if_pos h]; rfl
    · rw [if_neg h, if_neg h]; exact findR_eq n l
def conFindR : CON := onS fun n => some (true, (.tup [.agg (enc150 (orD (findD n libL))), .bool (isD (findD n libL))], []))
theorem okFindR : OK 126 conFindR := by
  refine ok_co (E := mkE C1) TT_ok (body_ok (E := mkE C1) (good C1_ok) (f := 126) (fn := (bodyT 126).getD default) (c := codeOf 126) (by rfl) (by rfl) 200) [some 150] fun l r h => ?_
  replace h := onS_spec (conO_some h)
  obtain ⟨a, rfl, h⟩ := h
  obtain ⟨_, rfl⟩ := some_pair h
  exact (congrArg crD (run_refFind a)).trans (findR_eq a libL)
def rowOk (p : ByteArray × GDescriptor) : Bool := Lib.hasPrefix p.1.data.toList (p.2.name.data.toList ++ [124]) && !List.elem 124 p.2.name.data.toList
theorem rows_ok : tabL.all rowOk = true := by kernel_rfl
theorem first_bar : ∀ {a b r s : List UInt8}, a ++ 124 :: r = b ++ 124 :: s → (124 : UInt8) ∉ a → (124 : UInt8) ∉ b → a = b
  | [], [], _, _, _, _, _ => rfl
  | [], y :: b, _, _, h, _, hb => by
    simp only [List.nil_append, List.cons_append, List.cons.injEq] at h
    exact absurd (by rw [h.1]; exact List.mem_cons_self ..) hb
  | x :: a, [], _, _, h, ha, _ => by
    simp only [List.nil_append, List.cons_append, List.cons.injEq] at h
    exact absurd (by rw [← h.1]; exact List.mem_cons_self ..) ha
  | x :: a, y :: b, _, _, h, ha, hb => by
    simp only [List.cons_append, List.cons.injEq] at h
    rw [h.1, first_bar h.2 (fun e => ha (List.mem_cons_of_mem _ e)) (fun e => hb (List.mem_cons_of_mem _ e))]
theorem row_spec {p : ByteArray × GDescriptor} (h : rowOk p = true) (n : ByteArray) : (Lib.hasPrefix p.1.data.toList (catB n bar).data.toList = true ∧ (!List.elem 124 n.data.toList) = true) ↔ eqB p.2.name n = true := by
  unfold rowOk at h
  rw [Bool.and_eq_true] at h
  have e : (catB n bar).data.toList = n.data.toList ++ [124] := by unfold catB bar; simp
  rw [e]
  unfold Lib.hasPrefix at *
  simp only [List.isPrefixOf_iff_prefix, Bool.not_eq_true', List.elem_eq_mem, decide_eq_false_iff_not] at h ⊢
  rw [eqB_iff, decide_eq_true_iff]
  obtain ⟨⟨r, hr⟩, hnb⟩ := h
  constructor
  · rintro ⟨⟨s, hs⟩, hn⟩
    have h5 := hr.trans hs.symm
    simp only [List.append_assoc, List.cons_append, List.nil_append] at h5
    have := first_bar h5 hnb hn
    cases hp : p.2.name with | mk x => cases n with | mk y =>
    rw [hp] at this
    congr 1
    exact Array.ext' this
  · rintro rfl
    exact ⟨⟨r, hr⟩, hnb⟩
theorem findP_eq (n : ByteArray) (hn : n.size + 1 < 4611686018427387904) : ∀ l : List (ByteArray × GDescriptor), l.all rowOk = true → crD (findP n l) = some (.tup [.agg (enc150 (orD (findD n (l.map Prod.snd)))), .int .i64 (erD (findD n (l.map Prod.snd)))], [])
  | [], _ => rfl
  | p :: l, h => by
    rw [List.all_cons, Bool.and_eq_true] at h
    have ih := findP_eq n hn l h.2
    have hs := row_spec h.1 n
    show crD (if n.size + 1 < 4611686018427387904 then (if Lib.hasPrefix p.1.data.toList (catB n bar).data.toList = true then (if (!List.elem 124 n.data.toList) = true then some (.tup [desV p.2, .int .i64 0], []) else findP n l) else findP n l) else none) =
      some (.tup [.agg (enc150 (orD (if eqB p.2.name n = true then some p.2 else findD n (l.map Prod.snd)))), .int .i64 (erD (if eqB p.2.name n = true then some p.2 else findD n (l.map Prod.snd)))], [])
    rw [if_pos hn]
    by_cases he : eqB p.2.name n = true
    · rw [if_pos he, if_pos (hs.2 he).1, if_pos (hs.2 he).2]
      rfl
    · rw [if_neg he]
      by_cases h1 : Lib.hasPrefix p.1.data.toList (catB n bar).data.toList = true
      · rw [if_pos h1]
        by_cases h2 : (!List.elem 124 n.data.toList) = true
        · exact absurd (hs.1 ⟨h1, h2⟩) he
        · rw [if_neg h2]; exact ih
      · rw [if_neg h1]; exact ih
def conFind : CON := onS fun n => some (Nat.blt (n.size + 1) 4611686018427387904, (.tup [.agg (enc150 (orD (findD n libL))), .int .i64 (erD (findD n libL))], []))
theorem okFind : OK 116 conFind := by
  refine ok_co (E := mkE C24') TT_ok (body_ok (E := mkE C24') (good C24'_ok) (f := 116) (fn := (bodyT 116).getD default) (c := codeOf 116) (by rfl) (by rfl) 60) [some 150] fun l r h => ?_
  replace h := onS_spec (conO_some h)
  obtain ⟨a, rfl, h⟩ := h
  obtain ⟨hn, rfl⟩ := some_pair h
  exact (congrArg crD (run_find a)).trans (findP_eq a (Nat.le_of_ble_eq_true hn) tabL rows_ok)
end
end Go.Proofs.YtpbpebjfglfjfaaGreatDoor.X
/-! Lists of ports, beside one another. -/
namespace Go.Proofs.YtpbpebjfglfjfaaGreatDoor.X
open Go Go.Proofs Go.RowKit Go.Proofs.YtpbpebjfglfjfaaGreatDoor
noncomputable section
def gp0 : GPort := ⟨⟨#[]⟩, ⟨#[]⟩⟩
theorem wrap_small {i : Int} (h0 : 0 ≤ i) (h1 : i ≤ 9223372036854775807) : IntKind.wrap .i64 i = i := by
  unfold IntKind.wrap
  simp [IntKind.signed, IntKind.bits]
  omega
theorem gt_at {α : Type} (d : α) (l : List α) (i : Nat) (h : i < l.length) : gt d l i = l[i] := by
  unfold gt; rw [List.getD_eq_getElem?_getD, List.getElem?_eq_getElem h]; rfl
def ro159 (v : VT) : Option (List GPort) := match v with | .ro e l => (if h : e = 159 then some (h ▸ l : List (At 159)) else none) | _ => none
theorem ro159_spec {v : VT} {l : List GPort} (h : ro159 v = some l) : v = .ro 159 l := by
  unfold ro159 at h
  split at h
  · split at h
    · rename_i e
      subst e
      obtain rfl := Option.some.inj h
      rfl
    · cases h
  · cases h
def ro155 (v : VT) : Option (List GBound) := match v with | .ro e l => (if h : e = 155 then some (h ▸ l : List (At 155)) else none) | _ => none
theorem ro155_spec {v : VT} {l : List GBound} (h : ro155 v = some l) : v = .ro 155 l := by
  unfold ro155 at h
  split at h
  · split at h
    · rename_i e
      subst e
      obtain rfl := Option.some.inj h
      rfl
    · cases h
  · cases h
def gb0 : GBound := ⟨⟨#[]⟩, 0, 0, 0⟩
def exD (l : List VT) : Option GDescriptor := match l with
  | [.str n, p, i, o, .int .i64 s, .int .i64 m] => (match ro155 p, ro159 i, ro159 o with | some p, some i, some o => some ⟨n, p, i, o, s, m⟩ | _, _, _ => none)
  | _ => none
theorem exD_spec {l : List VT} {d : GDescriptor} (h : exD l = some d) : l = enc150 d := by
  unfold exD at h
  split at h
  · split at h
    · rename_i hp hi ho
      obtain rfl := Option.some.inj h
      rw [ro155_spec hp, ro159_spec hi, ro159_spec ho]
      rfl
    · cases h
  · cases h
end
end Go.Proofs.YtpbpebjfglfjfaaGreatDoor.X
/-! Contracts of the descriptors, one list. -/
namespace Go.Proofs.YtpbpebjfglfjfaaGreatDoor.X
open Go Go.Proofs Go.RowKit Go.Proofs.YtpbpebjfglfjfaaGreatDoor
noncomputable section
def lib2 : List (Nat × CON) := (157, conLib) :: (116, conFind) :: (126, conFindR) :: lib0
theorem lib2_ok : AllOK lib2 := .cons okLib (.cons okFind (.cons okFindR lib0_ok))
end
end Go.Proofs.YtpbpebjfglfjfaaGreatDoor.X
