-- Written by this claim's own program out of the translation; not trusted: Lean checks it.
import Derived.Test.YtcpncmjjbfbdhaaDoorRx0
namespace Go.Proofs.YtcpncmjjbfbdhaaDoor.R
open Go.RowKit Go.Proofs.YtcpncmjjbfbdhaaDoorW.PrintWords Go.Proofs.YtcpncmjjbfbdhaaDoorW.PrintLast Go.Proofs.YtcpncmjjbfbdhaaDoorW.PrintMore
attribute [local go_sem] max2_int min2_int max_two min_two max_three min_three max_four min_four   -- for this text's walks alone
set_option linter.unusedVariables false
set_option linter.unusedSimpArgs false

/-! ### plenumref18_Library: function 38 -/
def plenumref18_Library.f  : Option ((List (S57))) := some (([(⟨(⟨#[97, 98, 111, 118, 101]⟩ : ByteArray), ([] : List (S61)), (([(⟨(⟨#[97]⟩ : ByteArray), (⟨#[85]⟩ : ByteArray)⟩ : S73), (⟨(⟨#[98]⟩ : ByteArray), (⟨#[85]⟩ : ByteArray)⟩ : S73)] : List (S73))), (([(⟨(⟨#[111, 117, 116]⟩ : ByteArray), (⟨#[98, 105, 110, 97, 114, 121]⟩ : ByteArray)⟩ : S73)] : List (S73))), 0, 1⟩ : S57), (⟨(⟨#[97, 98, 115]⟩ : ByteArray), ([] : List (S61)), (([(⟨(⟨#[97]⟩ : ByteArray), (⟨#[85]⟩ : ByteArray)⟩ : S73)] : List (S73))), (([(⟨(⟨#[111, 117, 116]⟩ : ByteArray), (⟨#[85]⟩ : ByteArray)⟩ : S73)] : List (S73))), 0, 1⟩ : S57), (⟨(⟨#[97, 100, 100]⟩ : ByteArray), ([] : List (S61)), (([(⟨(⟨#[97]⟩ : ByteArray), (⟨#[85]⟩ : ByteArray)⟩ : S73), (⟨(⟨#[98]⟩ : ByteArray), (⟨#[85]⟩ : ByteArray)⟩ : S73)] : List (S73))), (([(⟨(⟨#[111, 117, 116]⟩ : ByteArray), (⟨#[85]⟩ : ByteArray)⟩ : S73)] : List (S73))), 0, 1⟩ : S57), (⟨(⟨#[97, 110, 100]⟩ : ByteArray), ([] : List (S61)), (([(⟨(⟨#[97]⟩ : ByteArray), (⟨#[98, 105, 110, 97, 114, 121]⟩ : ByteArray)⟩ : S73), (⟨(⟨#[98]⟩ : ByteArray), (⟨#[98, 105, 110, 97, 114, 121]⟩ : ByteArray)⟩ : S73)] : List (S73))), (([(⟨(⟨#[111, 117, 116]⟩ : ByteArray), (⟨#[98, 105, 110, 97, 114, 121]⟩ : ByteArray)⟩ : S73)] : List (S73))), 0, 7⟩ : S57), (⟨(⟨#[98, 101, 108, 111, 119]⟩ : ByteArray), ([] : List (S61)), (([(⟨(⟨#[97]⟩ : ByteArray), (⟨#[85]⟩ : ByteArray)⟩ : S73), (⟨(⟨#[98]⟩ : ByteArray), (⟨#[85]⟩ : ByteArray)⟩ : S73)] : List (S73))), (([(⟨(⟨#[111, 117, 116]⟩ : ByteArray), (⟨#[98, 105, 110, 97, 114, 121]⟩ : ByteArray)⟩ : S73)] : List (S73))), 0, 1⟩ : S57), (⟨(⟨#[99, 104, 111, 111, 115, 101]⟩ : ByteArray), ([] : List (S61)), (([(⟨(⟨#[109]⟩ : ByteArray), (⟨#[109, 117, 108, 116, 105]⟩ : ByteArray)⟩ : S73), (⟨(⟨#[97]⟩ : ByteArray), (⟨#[84]⟩ : ByteArray)⟩ : S73)] : List (S73))), (([(⟨(⟨#[111, 117, 116]⟩ : ByteArray), (⟨#[84]⟩ : ByteArray)⟩ : S73)] : List (S73))), 0, 7⟩ : S57), (⟨(⟨#[99, 111, 117, 110, 116]⟩ : ByteArray), ([] : List (S61)), (([(⟨(⟨#[97]⟩ : ByteArray), (⟨#[98, 105, 110, 97, 114, 121]⟩ : ByteArray)⟩ : S73), (⟨(⟨#[114, 101, 115, 101, 116]⟩ : ByteArray), (⟨#[98, 105, 110, 97, 114, 121]⟩ : ByteArray)⟩ : S73)] : List (S73))), (([(⟨(⟨#[111, 117, 116]⟩ : ByteArray), (⟨#[97, 110, 97, 108, 111, 103]⟩ : ByteArray)⟩ : S73)] : List (S73))), 2, 1⟩ : S57), (⟨(⟨#[100, 101, 119, 112, 111, 105, 110, 116]⟩ : ByteArray), ([] : List (S61)), (([(⟨(⟨#[116]⟩ : ByteArray), (⟨#[97, 110, 97, 108, 111, 103, 32, 100, 101, 103, 67]⟩ : ByteArray)⟩ : S73), (⟨(⟨#[114, 104]⟩ : ByteArray), (⟨#[97, 110, 97, 108, 111, 103, 32, 112, 99, 116]⟩ : ByteArray)⟩ : S73)] : List (S73))), (([(⟨(⟨#[111, 117, 116]⟩ : ByteArray), (⟨#[97, 110, 97, 108, 111, 103, 32, 100, 101, 103, 67]⟩ : ByteArray)⟩ : S73)] : List (S73))), 0, 1⟩ : S57), (⟨(⟨#[100, 105, 118]⟩ : ByteArray), ([] : List (S61)), (([(⟨(⟨#[97]⟩ : ByteArray), (⟨#[85]⟩ : ByteArray)⟩ : S73), (⟨(⟨#[98]⟩ : ByteArray), (⟨#[86]⟩ : ByteArray)⟩ : S73)] : List (S73))), (([(⟨(⟨#[111, 117, 116]⟩ : ByteArray), (⟨#[85, 47, 86]⟩ : ByteArray)⟩ : S73)] : List (S73))), 0, 1⟩ : S57), (⟨(⟨#[101, 100, 103, 101]⟩ : ByteArray), ([] : List (S61)), (([(⟨(⟨#[97]⟩ : ByteArray), (⟨#[98, 105, 110, 97, 114, 121]⟩ : ByteArray)⟩ : S73)] : List (S73))), (([(⟨(⟨#[111, 117, 116]⟩ : ByteArray), (⟨#[98, 105, 110, 97, 114, 121]⟩ : ByteArray)⟩ : S73)] : List (S73))), 1, 1⟩ : S57), (⟨(⟨#[101, 110, 116, 104, 97, 108, 112, 121]⟩ : ByteArray), ([] : List (S61)), (([(⟨(⟨#[116]⟩ : ByteArray), (⟨#[97, 110, 97, 108, 111, 103, 32, 100, 101, 103, 67]⟩ : ByteArray)⟩ : S73), (⟨(⟨#[114, 104]⟩ : ByteArray), (⟨#[97, 110, 97, 108, 111, 103, 32, 112, 99, 116]⟩ : ByteArray)⟩ : S73)] : List (S73))), (([(⟨(⟨#[111, 117, 116]⟩ : ByteArray), (⟨#[97, 110, 97, 108, 111, 103, 32, 107, 74, 47, 107, 103]⟩ : ByteArray)⟩ : S73)] : List (S73))), 0, 1⟩ : S57), (⟨(⟨#[104, 121, 115, 116]⟩ : ByteArray), (([(⟨(⟨#[111, 110]⟩ : ByteArray), (-1000000000000), 1000000000000, 1000⟩ : S61), (⟨(⟨#[111, 102, 102]⟩ : ByteArray), (-1000000000000), 1000000000000, 0⟩ : S61)] : List (S61))), (([(⟨(⟨#[97]⟩ : ByteArray), (⟨#[85]⟩ : ByteArray)⟩ : S73)] : List (S73))), (([(⟨(⟨#[111, 117, 116]⟩ : ByteArray), (⟨#[98, 105, 110, 97, 114, 121]⟩ : ByteArray)⟩ : S73)] : List (S73))), 1, 1⟩ : S57), (⟨(⟨#[108, 97, 116, 99, 104]⟩ : ByteArray), ([] : List (S61)), (([(⟨(⟨#[115, 101, 116]⟩ : ByteArray), (⟨#[98, 105, 110, 97, 114, 121]⟩ : ByteArray)⟩ : S73), (⟨(⟨#[114, 101, 115, 101, 116]⟩ : ByteArray), (⟨#[98, 105, 110, 97, 114, 121]⟩ : ByteArray)⟩ : S73)] : List (S73))), (([(⟨(⟨#[111, 117, 116]⟩ : ByteArray), (⟨#[98, 105, 110, 97, 114, 121]⟩ : ByteArray)⟩ : S73)] : List (S73))), 1, 1⟩ : S57), (⟨(⟨#[108, 105, 109, 105, 116]⟩ : ByteArray), (([(⟨(⟨#[108, 111, 119]⟩ : ByteArray), (-1000000000000), 1000000000000, (-1000000000000)⟩ : S61), (⟨(⟨#[104, 105, 103, 104]⟩ : ByteArray), (-1000000000000), 1000000000000, 1000000000000⟩ : S61)] : List (S61))), (([(⟨(⟨#[97]⟩ : ByteArray), (⟨#[85]⟩ : ByteArray)⟩ : S73)] : List (S73))), (([(⟨(⟨#[111, 117, 116]⟩ : ByteArray), (⟨#[85]⟩ : ByteArray)⟩ : S73)] : List (S73))), 0, 1⟩ : S57), (⟨(⟨#[108, 105, 110, 101]⟩ : ByteArray), (([(⟨(⟨#[120, 49]⟩ : ByteArray), (-1000000000000), 1000000000000, 0⟩ : S61), (⟨(⟨#[121, 49]⟩ : ByteArray), (-1000000000000), 1000000000000, 0⟩ : S61), (⟨(⟨#[120, 50]⟩ : ByteArray), (-1000000000000), 1000000000000, 100000⟩ : S61), (⟨(⟨#[121, 50]⟩ : ByteArray), (-1000000000000), 1000000000000, 100000⟩ : S61)] : List (S61))), (([(⟨(⟨#[97]⟩ : ByteArray), (⟨#[85]⟩ : ByteArray)⟩ : S73)] : List (S73))), (([(⟨(⟨#[111, 117, 116]⟩ : ByteArray), (⟨#[97, 110, 97, 108, 111, 103]⟩ : ByteArray)⟩ : S73)] : List (S73))), 0, 1⟩ : S57), (⟨(⟨#[109, 97, 120]⟩ : ByteArray), ([] : List (S61)), (([(⟨(⟨#[97]⟩ : ByteArray), (⟨#[85]⟩ : ByteArray)⟩ : S73), (⟨(⟨#[98]⟩ : ByteArray), (⟨#[85]⟩ : ByteArray)⟩ : S73)] : List (S73))), (([(⟨(⟨#[111, 117, 116]⟩ : ByteArray), (⟨#[85]⟩ : ByteArray)⟩ : S73)] : List (S73))), 0, 1⟩ : S57), (⟨(⟨#[109, 101, 97, 110]⟩ : ByteArray), ([] : List (S61)), (([(⟨(⟨#[97]⟩ : ByteArray), (⟨#[85]⟩ : ByteArray)⟩ : S73), (⟨(⟨#[98]⟩ : ByteArray), (⟨#[85]⟩ : ByteArray)⟩ : S73)] : List (S73))), (([(⟨(⟨#[111, 117, 116]⟩ : ByteArray), (⟨#[85]⟩ : ByteArray)⟩ : S73)] : List (S73))), 0, 7⟩ : S57), (⟨(⟨#[109, 105, 110]⟩ : ByteArray), ([] : List (S61)), (([(⟨(⟨#[97]⟩ : ByteArray), (⟨#[85]⟩ : ByteArray)⟩ : S73), (⟨(⟨#[98]⟩ : ByteArray), (⟨#[85]⟩ : ByteArray)⟩ : S73)] : List (S73))), (([(⟨(⟨#[111, 117, 116]⟩ : ByteArray), (⟨#[85]⟩ : ByteArray)⟩ : S73)] : List (S73))), 0, 1⟩ : S57), (⟨(⟨#[109, 105, 110, 114, 117, 110]⟩ : ByteArray), (([(⟨(⟨#[111, 110]⟩ : ByteArray), 0, 86400, 0⟩ : S61), (⟨(⟨#[111, 102, 102]⟩ : ByteArray), 0, 86400, 0⟩ : S61)] : List (S61))), (([(⟨(⟨#[97]⟩ : ByteArray), (⟨#[98, 105, 110, 97, 114, 121]⟩ : ByteArray)⟩ : S73)] : List (S73))), (([(⟨(⟨#[111, 117, 116]⟩ : ByteArray), (⟨#[98, 105, 110, 97, 114, 121]⟩ : ByteArray)⟩ : S73)] : List (S73))), 2, 1⟩ : S57), (⟨(⟨#[109, 117, 108]⟩ : ByteArray), ([] : List (S61)), (([(⟨(⟨#[97]⟩ : ByteArray), (⟨#[85]⟩ : ByteArray)⟩ : S73), (⟨(⟨#[98]⟩ : ByteArray), (⟨#[86]⟩ : ByteArray)⟩ : S73)] : List (S73))), (([(⟨(⟨#[111, 117, 116]⟩ : ByteArray), (⟨#[85, 42, 86]⟩ : ByteArray)⟩ : S73)] : List (S73))), 0, 1⟩ : S57), (⟨(⟨#[110, 101, 103]⟩ : ByteArray), ([] : List (S61)), (([(⟨(⟨#[97]⟩ : ByteArray), (⟨#[85]⟩ : ByteArray)⟩ : S73)] : List (S73))), (([(⟨(⟨#[111, 117, 116]⟩ : ByteArray), (⟨#[85]⟩ : ByteArray)⟩ : S73)] : List (S73))), 0, 1⟩ : S57), (⟨(⟨#[110, 111, 116]⟩ : ByteArray), ([] : List (S61)), (([(⟨(⟨#[97]⟩ : ByteArray), (⟨#[98, 105, 110, 97, 114, 121]⟩ : ByteArray)⟩ : S73)] : List (S73))), (([(⟨(⟨#[111, 117, 116]⟩ : ByteArray), (⟨#[98, 105, 110, 97, 114, 121]⟩ : ByteArray)⟩ : S73)] : List (S73))), 0, 1⟩ : S57), (⟨(⟨#[111, 102, 102, 100, 101, 108, 97, 121]⟩ : ByteArray), (([(⟨(⟨#[116, 105, 109, 101]⟩ : ByteArray), 0, 86400, 0⟩ : S61)] : List (S61))), (([(⟨(⟨#[97]⟩ : ByteArray), (⟨#[98, 105, 110, 97, 114, 121]⟩ : ByteArray)⟩ : S73)] : List (S73))), (([(⟨(⟨#[111, 117, 116]⟩ : ByteArray), (⟨#[98, 105, 110, 97, 114, 121]⟩ : ByteArray)⟩ : S73)] : List (S73))), 1, 1⟩ : S57), (⟨(⟨#[111, 110, 100, 101, 108, 97, 121]⟩ : ByteArray), (([(⟨(⟨#[116, 105, 109, 101]⟩ : ByteArray), 0, 86400, 0⟩ : S61)] : List (S61))), (([(⟨(⟨#[97]⟩ : ByteArray), (⟨#[98, 105, 110, 97, 114, 121]⟩ : ByteArray)⟩ : S73)] : List (S73))), (([(⟨(⟨#[111, 117, 116]⟩ : ByteArray), (⟨#[98, 105, 110, 97, 114, 121]⟩ : ByteArray)⟩ : S73)] : List (S73))), 1, 1⟩ : S57), (⟨(⟨#[111, 114]⟩ : ByteArray), ([] : List (S61)), (([(⟨(⟨#[97]⟩ : ByteArray), (⟨#[98, 105, 110, 97, 114, 121]⟩ : ByteArray)⟩ : S73), (⟨(⟨#[98]⟩ : ByteArray), (⟨#[98, 105, 110, 97, 114, 121]⟩ : ByteArray)⟩ : S73)] : List (S73))), (([(⟨(⟨#[111, 117, 116]⟩ : ByteArray), (⟨#[98, 105, 110, 97, 114, 121]⟩ : ByteArray)⟩ : S73)] : List (S73))), 0, 7⟩ : S57), (⟨(⟨#[112, 105, 99, 107]⟩ : ByteArray), ([] : List (S61)), (([(⟨(⟨#[115]⟩ : ByteArray), (⟨#[98, 105, 110, 97, 114, 121]⟩ : ByteArray)⟩ : S73), (⟨(⟨#[97]⟩ : ByteArray), (⟨#[84]⟩ : ByteArray)⟩ : S73), (⟨(⟨#[98]⟩ : ByteArray), (⟨#[84]⟩ : ByteArray)⟩ : S73)] : List (S73))), (([(⟨(⟨#[111, 117, 116]⟩ : ByteArray), (⟨#[84]⟩ : ByteArray)⟩ : S73)] : List (S73))), 0, 1⟩ : S57), (⟨(⟨#[112, 105, 100]⟩ : ByteArray), (([(⟨(⟨#[107, 112]⟩ : ByteArray), 0, 1000000000, 1000⟩ : S61), (⟨(⟨#[116, 105]⟩ : ByteArray), 0, 86400, 0⟩ : S61), (⟨(⟨#[108, 111, 119]⟩ : ByteArray), (-1000000000000), 1000000000000, 0⟩ : S61), (⟨(⟨#[104, 105, 103, 104]⟩ : ByteArray), (-1000000000000), 1000000000000, 100000⟩ : S61), (⟨(⟨#[114, 101, 118, 101, 114, 115, 101]⟩ : ByteArray), 0, 1, 0⟩ : S61)] : List (S61))), (([(⟨(⟨#[115, 101, 116]⟩ : ByteArray), (⟨#[85]⟩ : ByteArray)⟩ : S73), (⟨(⟨#[110, 111, 119]⟩ : ByteArray), (⟨#[85]⟩ : ByteArray)⟩ : S73), (⟨(⟨#[101, 110, 97, 98, 108, 101]⟩ : ByteArray), (⟨#[98, 105, 110, 97, 114, 121]⟩ : ByteArray)⟩ : S73)] : List (S73))), (([(⟨(⟨#[111, 117, 116]⟩ : ByteArray), (⟨#[97, 110, 97, 108, 111, 103, 32, 112, 99, 116]⟩ : ByteArray)⟩ : S73)] : List (S73))), 3, 1⟩ : S57), (⟨(⟨#[112, 117, 108, 115, 101]⟩ : ByteArray), (([(⟨(⟨#[116, 105, 109, 101]⟩ : ByteArray), 0, 86400, 0⟩ : S61)] : List (S61))), (([(⟨(⟨#[97]⟩ : ByteArray), (⟨#[98, 105, 110, 97, 114, 121]⟩ : ByteArray)⟩ : S73)] : List (S73))), (([(⟨(⟨#[111, 117, 116]⟩ : ByteArray), (⟨#[98, 105, 110, 97, 114, 121]⟩ : ByteArray)⟩ : S73)] : List (S73))), 2, 1⟩ : S57), (⟨(⟨#[114, 97, 116, 101]⟩ : ByteArray), (([(⟨(⟨#[117, 112]⟩ : ByteArray), 0, 1000000000000, 1000⟩ : S61), (⟨(⟨#[100, 111, 119, 110]⟩ : ByteArray), 0, 1000000000000, 1000⟩ : S61)] : List (S61))), (([(⟨(⟨#[97]⟩ : ByteArray), (⟨#[85]⟩ : ByteArray)⟩ : S73)] : List (S73))), (([(⟨(⟨#[111, 117, 116]⟩ : ByteArray), (⟨#[85]⟩ : ByteArray)⟩ : S73)] : List (S73))), 2, 1⟩ : S57), (⟨(⟨#[115, 116, 97, 103, 101]⟩ : ByteArray), (([(⟨(⟨#[115, 116, 97, 103, 101, 115]⟩ : ByteArray), 1, 15, 1⟩ : S61), (⟨(⟨#[117, 112]⟩ : ByteArray), (-1000000000000), 1000000000000, 0⟩ : S61), (⟨(⟨#[100, 111, 119, 110]⟩ : ByteArray), (-1000000000000), 1000000000000, 0⟩ : S61), (⟨(⟨#[117, 112, 100, 101, 108, 97, 121]⟩ : ByteArray), 0, 86400, 0⟩ : S61), (⟨(⟨#[100, 111, 119, 110, 100, 101, 108, 97, 121]⟩ : ByteArray), 0, 86400, 0⟩ : S61)] : List (S61))), (([(⟨(⟨#[97]⟩ : ByteArray), (⟨#[85]⟩ : ByteArray)⟩ : S73)] : List (S73))), (([(⟨(⟨#[111, 117, 116]⟩ : ByteArray), (⟨#[109, 117, 108, 116, 105]⟩ : ByteArray)⟩ : S73)] : List (S73))), 2, 1⟩ : S57), (⟨(⟨#[115, 116, 101, 112, 115]⟩ : ByteArray), (([(⟨(⟨#[99, 111, 117, 110, 116]⟩ : ByteArray), 1, 15, 1⟩ : S61), (⟨(⟨#[108, 101, 97, 115, 116]⟩ : ByteArray), 0, 86400, 0⟩ : S61)] : List (S61))), (([(⟨(⟨#[103, 111]⟩ : ByteArray), (⟨#[98, 105, 110, 97, 114, 121]⟩ : ByteArray)⟩ : S73), (⟨(⟨#[110, 101, 120, 116]⟩ : ByteArray), (⟨#[98, 105, 110, 97, 114, 121]⟩ : ByteArray)⟩ : S73)] : List (S73))), (([(⟨(⟨#[111, 117, 116]⟩ : ByteArray), (⟨#[109, 117, 108, 116, 105]⟩ : ByteArray)⟩ : S73)] : List (S73))), 2, 1⟩ : S57), (⟨(⟨#[115, 117, 98]⟩ : ByteArray), ([] : List (S61)), (([(⟨(⟨#[97]⟩ : ByteArray), (⟨#[85]⟩ : ByteArray)⟩ : S73), (⟨(⟨#[98]⟩ : ByteArray), (⟨#[85]⟩ : ByteArray)⟩ : S73)] : List (S73))), (([(⟨(⟨#[111, 117, 116]⟩ : ByteArray), (⟨#[85]⟩ : ByteArray)⟩ : S73)] : List (S73))), 0, 1⟩ : S57), (⟨(⟨#[120, 111, 114]⟩ : ByteArray), ([] : List (S61)), (([(⟨(⟨#[97]⟩ : ByteArray), (⟨#[98, 105, 110, 97, 114, 121]⟩ : ByteArray)⟩ : S73), (⟨(⟨#[98]⟩ : ByteArray), (⟨#[98, 105, 110, 97, 114, 121]⟩ : ByteArray)⟩ : S73)] : List (S73))), (([(⟨(⟨#[111, 117, 116]⟩ : ByteArray), (⟨#[98, 105, 110, 97, 114, 121]⟩ : ByteArray)⟩ : S73)] : List (S73))), 0, 1⟩ : S57)] : List (S57)))
def plenumref18_Library.list : List S57 := (plenumref18_Library.f).getD []
def plenumref18_Library.ports (l : List S73) : Obj := .cells (l.flatMap fun p => [Value.string p.f0, Value.string p.f1]).toArray 73 (0, 0)
def plenumref18_Library.bounds (l : List S61) : Obj := .cells (l.flatMap fun p => [Value.string p.f0, Value.int .i64 p.f1, Value.int .i64 p.f2, Value.int .i64 p.f3]).toArray 61 (0, 0)
def plenumref18_Library.blocksOf : List S57 → List Obj
  | [] => []
  | d :: r => match d.f1 with
    | [] => plenumref18_Library.ports d.f2 :: plenumref18_Library.ports d.f3 :: plenumref18_Library.blocksOf r
    | b :: bs => plenumref18_Library.bounds (b :: bs) :: plenumref18_Library.ports d.f2 :: plenumref18_Library.ports d.f3 :: plenumref18_Library.blocksOf r
def plenumref18_Library.cellsOf (n : Nat) : List S57 → Nat → List Value
  | [], _ => []
  | d :: r, j => match d.f1 with
    | [] => [.string d.f0, .slice none 0 0, .slice (some ⟨n + j, 0, none⟩) d.f2.length d.f2.length, .slice (some ⟨n + (j + 1), 0, none⟩) d.f3.length d.f3.length, .int .i64 d.f4, .int .i64 d.f5] ++ plenumref18_Library.cellsOf n r (j + 2)
    | b :: bs => [.string d.f0, .slice (some ⟨n + j, 0, none⟩) (b :: bs).length (b :: bs).length, .slice (some ⟨n + (j + 1), 0, none⟩) d.f2.length d.f2.length, .slice (some ⟨n + (j + 2), 0, none⟩) d.f3.length d.f3.length, .int .i64 d.f4, .int .i64 d.f5] ++ plenumref18_Library.cellsOf n r (j + 3)
noncomputable def plenumref18_Library.ops : List Oper := match Tryd.f38.body with
  | some (.seq _ (.seq (.region _ ops _) _)) => ops.toList
  | _ => []
noncomputable def plenumref18_Library.ops0 : List Oper := match Tryd.f38.body with
  | some (.seq (.region _ ops _) _) => ops.toList
  | _ => []
theorem plenumref18_Library.body : Tryd.f38.body = some (.seq (.region 0 plenumref18_Library.ops0.toArray false) (.seq (.region 1 plenumref18_Library.ops.toArray false) .ret)) := by kernel_rfl
theorem plenumref18_Library.run0 (n : Nat) : litRun Tryd.prog n plenumref18_Library.ops0 [] [] = some ([(0, .slice none 0 0)], []) := by kernel_rfl
set_option maxRecDepth 100000 in
theorem plenumref18_Library.run1 (n : Nat) : (litRun Tryd.prog n plenumref18_Library.ops [(0, .slice none 0 0)] []).map (fun p => (look p.1 0, p.2)) = some (some (.slice (some ⟨n + (plenumref18_Library.blocksOf plenumref18_Library.list).length, 0, none⟩) plenumref18_Library.list.length plenumref18_Library.list.length), plenumref18_Library.blocksOf plenumref18_Library.list ++ [.cells (plenumref18_Library.cellsOf n plenumref18_Library.list 0).toArray 57 (0, 0)]) := by kernel_rfl
theorem plenumref18_Library.short : (plenumref18_Library.list.all fun d => decide (d.f1.length ≤ 9223372036854775807) && decide (d.f2.length ≤ 9223372036854775807) && decide (d.f3.length ≤ 9223372036854775807)) = true := by kernel_rfl
theorem plenumref18_Library.rowP {W : World} {n b : Nat} {ok : Nat → Prop} (xs : List S73) (hb : n ≤ b) (hok : ok b) (hm : xs.length ≤ 9223372036854775807) (hblk : W.heap[b]? = some (plenumref18_Library.ports xs)) : k73.R 73 W n ok (.slice (some ⟨b, 0, none⟩) xs.length xs.length) xs :=
  R_block k73 hb hok hm hblk (reps_flat (fun p : S73 => [Value.string p.f0, Value.string p.f1]) (fun x => k73_mkM _ _ _ x) (fun _ => rfl) xs)
theorem plenumref18_Library.rowB {W : World} {n b : Nat} {ok : Nat → Prop} (xs : List S61) (hb : n ≤ b) (hok : ok b) (hm : xs.length ≤ 9223372036854775807) (hblk : W.heap[b]? = some (plenumref18_Library.bounds xs)) : k61.R 61 W n ok (.slice (some ⟨b, 0, none⟩) xs.length xs.length) xs :=
  R_block k61 hb hok hm hblk (reps_flat (fun p : S61 => [Value.string p.f0, Value.int .i64 p.f1, Value.int .i64 p.f2, Value.int .i64 p.f3]) (fun x => k61_mkM _ _ _ x) (fun _ => rfl) xs)
theorem plenumref18_Library.reps {W : World} {n N : Nat} {bs : List Obj} (hW : ∀ j o, bs[j]? = some o → W.heap[n + j]? = some o) : ∀ (l : List S57) (j : Nat), (∀ i o, (plenumref18_Library.blocksOf l)[i]? = some o → bs[j + i]? = some o) →
    (l.all fun d => decide (d.f1.length ≤ 9223372036854775807) && decide (d.f2.length ≤ 9223372036854775807) && decide (d.f3.length ≤ 9223372036854775807)) = true → j + (plenumref18_Library.blocksOf l).length ≤ N →
    Reps (k57.M W n (fun k => n ≤ k ∧ some k ≠ (some (n + N) : Option Nat))) 6 l (plenumref18_Library.cellsOf n l j)
  | [], _, _, _, _ => Reps.none _ _
  | ⟨f0, f1, f2, f3, f4, f5⟩ :: r, j, hb, hs, hN => by
    simp only [List.all_cons, Bool.and_eq_true, decide_eq_true_eq] at hs
    obtain ⟨⟨⟨h1, h2⟩, h3⟩, hr⟩ := hs
    have ne : ∀ q, q < N → n ≤ n + q ∧ some (n + q) ≠ (some (n + N) : Option Nat) := fun q hq => ⟨Nat.le_add_right _ _, fun e => by injection e; omega⟩
    cases f1 with
    | nil =>
      simp only [plenumref18_Library.blocksOf, List.length_cons] at hb hN
      have a := hW _ _ (hb 0 _ rfl)
      have b := hW _ _ (hb 1 _ rfl)
      have hrec := plenumref18_Library.reps (N := N) hW r (j + 2) (fun i o hi => by rw [show j + 2 + i = j + (i + 2) by omega]; exact hb (i + 2) o hi) hr (by omega)
      simp only [plenumref18_Library.cellsOf]
      refine Reps.put ?_ rfl hrec
      exact k57_mkM W n _ ⟨f0, [], f2, f3, f4, f5⟩ (Kd.R_nil _ _ _ _ _) (plenumref18_Library.rowP f2 (by omega) (ne j (by omega)) h2 a) (plenumref18_Library.rowP f3 (by omega) (ne (j + 1) (by omega)) h3 b)
    | cons p ps =>
      simp only [plenumref18_Library.blocksOf, List.length_cons] at hb hN
      have a := hW _ _ (hb 0 _ rfl)
      have b := hW _ _ (hb 1 _ rfl)
      have c := hW _ _ (hb 2 _ rfl)
      have hrec := plenumref18_Library.reps (N := N) hW r (j + 3) (fun i o hi => by rw [show j + 3 + i = j + (i + 3) by omega]; exact hb (i + 3) o hi) hr (by omega)
      simp only [plenumref18_Library.cellsOf]
      refine Reps.put ?_ rfl hrec
      exact k57_mkM W n _ ⟨f0, p :: ps, f2, f3, f4, f5⟩ (plenumref18_Library.rowB (p :: ps) (by omega) (ne j (by omega)) h1 a) (plenumref18_Library.rowP f2 (by omega) (ne (j + 1) (by omega)) h2 b) (plenumref18_Library.rowP f3 (by omega) (ne (j + 2) (by omega)) h3 c)
set_option maxHeartbeats 8000000 in
set_option maxRecDepth 100000 in
theorem plenumref18_Library.calls  (r : List (S57)) (w : World) (h : plenumref18_Library.f  = some r) :
  Calls Tryd.prog 38 #[] w fun e w' => ∃ v0_ : Value, e = .returned (v0_) ∧ Kd.N k57 57 w' w.heap.size (fun k_ => (w.heap.size ≤ k_)) v0_ r ∧ Below w.heap.size w w' := by
  have hr : r = plenumref18_Library.list := by unfold plenumref18_Library.list; rw [h]; rfl
  clear h
  subst hr
  refine calls_of_wp Tryd.func38 plenumref18_Library.body ?_
  refine wp_seq (wp_region_list ?_)
  rw [List.toList_toArray]
  refine litRun_sound (N := Tryd.f38.ntmps) w plenumref18_Library.ops0 [] [] _ _ _ (plenumref18_Library.run0 _) (by kernel_rfl) ⟨by simp, fun t v hv => by cases hv⟩ (fun a1 hf1 hd1 => ?_)
  refine wp_seq (wp_region_list ?_)
  rw [List.toList_toArray]
  obtain ⟨⟨env1, bs1⟩, h1, h2⟩ := Option.map_eq_some_iff.1 (plenumref18_Library.run1 w.heap.size)
  simp only [Prod.mk.injEq] at h2
  obtain ⟨h2, rfl⟩ := h2
  refine litRun_sound (N := Tryd.f38.ntmps) w plenumref18_Library.ops _ [] _ _ _ h1 (by kernel_rfl) hf1 (fun a2 hf2 hd2 => ?_)
  refine wp_ret ⟨hd2.trans hd1, _, results_tmp rfl _ _ _, ?_⟩
  rw [hf2.2 0 _ h2]
  refine ⟨_, rfl, ?_, allocs_below _ _⟩
  have hblk := fun j o hj => allocs_block (plenumref18_Library.blocksOf plenumref18_Library.list ++ [.cells (plenumref18_Library.cellsOf w.heap.size plenumref18_Library.list 0).toArray 57 (0, 0)]) w j o hj
  have hlast := hblk (plenumref18_Library.blocksOf plenumref18_Library.list).length _ (by rw [List.getElem?_append_right (Nat.le_refl _), Nat.sub_self]; rfl)
  have hrep := plenumref18_Library.reps (N := (plenumref18_Library.blocksOf plenumref18_Library.list).length) hblk plenumref18_Library.list 0 (fun i o hi => by
    rw [Nat.zero_add, List.getElem?_append_left (List.getElem?_eq_some_iff.1 hi).1]; exact hi) plenumref18_Library.short (by omega)
  have hlen : plenumref18_Library.list.length ≤ 9223372036854775807 := by
    have : plenumref18_Library.list.length = 33 := by kernel_rfl
    omega
  have hR : k57.R 57 (allocs w (plenumref18_Library.blocksOf plenumref18_Library.list ++ [.cells (plenumref18_Library.cellsOf w.heap.size plenumref18_Library.list 0).toArray 57 (0, 0)])) w.heap.size (fun k_ => w.heap.size ≤ k_) (.slice (some ⟨w.heap.size + (plenumref18_Library.blocksOf plenumref18_Library.list).length, 0, none⟩) plenumref18_Library.list.length plenumref18_Library.list.length) plenumref18_Library.list :=
    R_block k57 (Nat.le_add_right _ _) (Nat.le_add_right _ _) hlen hlast hrep
  first | exact Kd.R_N hR | exact Kd.R_mono hR (fun _ _ => trivial)


/-! ### plenumref18_Find: function 33 -/
def plenumref18_Find.l0 : Nat → ByteArray → List (S57) → Int → Option (ByteArray × (List (S61)) × (List (S73)) × (List (S73)) × Int × Int × Bool)
 | 0, _, _, _ => none
 | k + 1, x0, x4, x5 => if x5 < (x4.length : Int) then (if 0 ≤ x5 then (if ((rd_T57 x4 x5).f0).toList = x0.toList then (some ((rd_T57 x4 x5).f0, (rd_T57 x4 x5).f1, (rd_T57 x4 x5).f2, (rd_T57 x4 x5).f3, (rd_T57 x4 x5).f4, (rd_T57 x4 x5).f5, true)) else (plenumref18_Find.l0 k x0 x4 (wrap64 (x5 + 1)))) else (none)) else (some ((⟨#[]⟩ : ByteArray), ([] : List (S61)), ([] : List (S73)), ([] : List (S73)), 0, 0, false))
def plenumref18_Find.f (k : Nat) (a0 : ByteArray) : Option (ByteArray × (List (S61)) × (List (S73)) × (List (S73)) × Int × Int × Bool) := (plenumref18_Library.f).bind fun t553 => (plenumref18_Find.l0 k a0 t553 0)
theorem plenumref18_Find.mono_l : ∀ k, (∀ y0 y1 y2, LeO (plenumref18_Find.l0 k y0 y1 y2) (plenumref18_Find.l0 (k + 1) y0 y1 y2))
 | 0 => fun _ _ _ r h => by simp [plenumref18_Find.l0] at h
 | k + 1 => by
  have ih0 := plenumref18_Find.mono_l k
  ·
   intro y0 y1 y2
   unfold plenumref18_Find.l0
   repeat' first
   | (with_reducible exact ih0 _ _ _)
   | (with_reducible exact LeO.refl _)
   | (with_reducible exact LeO.none _)
   | (with_reducible refine LeO.ite ?_ ?_)
   | (with_reducible refine LeO.bind ?_ (fun _ => ?_))
   | exact ih0 _ _ _
   | exact LeO.none _
   | refine LeO.ite ?_ ?_
   | refine LeO.bind ?_ (fun _ => ?_)
theorem plenumref18_Find.mono : ∀ a0 k, LeO (plenumref18_Find.f k a0) (plenumref18_Find.f (k + 1) a0) := by
 intro a0 k
 have ih0 := plenumref18_Find.mono_l k
 unfold plenumref18_Find.f
 repeat' first
   | (with_reducible exact ih0 _ _ _)
   | (with_reducible exact LeO.refl _)
   | (with_reducible exact LeO.none _)
   | (with_reducible refine LeO.ite ?_ ?_)
   | (with_reducible refine LeO.bind ?_ (fun _ => ?_))
   | exact ih0 _ _ _
   | exact LeO.none _
   | refine LeO.ite ?_ ?_
   | refine LeO.bind ?_ (fun _ => ?_)
set_option maxHeartbeats 8000000 in
set_option maxRecDepth 100000 in
theorem plenumref18_Find.calls (k : Nat) (a0 : ByteArray) (r1 : ByteArray) (r2 : List (S61)) (r3 : List (S73)) (r4 : List (S73)) (r5 : Int) (r6 : Int) (r7 : Bool) (w : World) (h : plenumref18_Find.f k a0 = some (r1, r2, r3, r4, r5, r6, r7)) :
  Calls Tryd.prog 33 #[.string a0] w fun e w' => ∃ v1_ v2_ v3_ : Value, e = .returned (.tuple #[.agg #[.string r1, v1_, v2_, v3_, .int .i64 r5, .int .i64 r6], .bool r7]) ∧ Kd.V k61 61 w' w.heap.size (fun k_ => (w.heap.size ≤ k_)) v1_ r2 ∧ Kd.V k73 73 w' w.heap.size (fun k_ => (w.heap.size ≤ k_)) v2_ r3 ∧ Kd.V k73 73 w' w.heap.size (fun k_ => (w.heap.size ≤ k_)) v3_ r4 ∧ Below w.heap.size w w' := by
 have hu57 := Tryd.underlying57
 have HB := Aside0.mk (Below.refl w.heap.size w)
 have H : ((plenumref18_Library.f).bind fun t553 => (plenumref18_Find.l0 k a0 t553 0)) = some (r1, r2, r3, r4, r5, r6, r7) := h
 clear h
 replace H := Option.bind_eq_some_iff.mp H
 obtain ⟨t553, A20, H⟩ := H
 replace H : (plenumref18_Find.l0 k a0 t553 0) = some (r1, r2, r3, r4, r5, r6, r7) := H
 have A2 := Aside0.mk A20
 clear A20
 have H' := Aside0.mk H
 clear H
 go_enter Tryd.func33, Tryd.ntmps33
 go_wp2_with (first | ((with_reducible refine gate_dst (N := 2) rfl ?_); refine box_event ?hg (N := 2) ?hd (cs := #[.string (⟨#[]⟩ : ByteArray), .slice none 0 0, .slice none 0 0, .slice none 0 0, .int .i64 0, .int .i64 0]) (t := 57) ?hr ?_; (case hd => rfl); (case hg => rfl); (case hr => first | (go_simp; done) | (go_simp; rfl)); intro gb552 hg w3 hbox hb; have n0_ := Aside0.mk (below_step bl hb); have n1_ := Aside0.mk (hbox); have n2_ := Aside0.mk ((by rw [hg]; exact (below_size bl) : w.heap.size ≤ gb552)); have n3_ := Aside0.mk ((by rw [hg]; exact (below_size bl) : w.heap.size ≤ gb552)); clear HB; have HB := n0_; have BK552 := n1_; have GW552 := n2_; have GE552 := n3_; clear n0_ n1_ n2_ n3_; clear hb hbox hg) | ((with_reducible refine gate_callee (f := 38) rfl ?_); refine goesL_ (some 6) rfl rfl Tryd.func38 (by kernel_rfl) rfl #[] rfl aeq ?_; (with_reducible refine (plenumref18_Library.calls  t553 _ A2.out).mono ?_); rintro e w4 ⟨v554, rfl, ho0, hb⟩; refine ⟨_, rfl, ?_⟩; have n0_ := Aside0.mk (Kd.N_lower (Kd.N_mono (ok' := fun k_ => (w.heap.size ≤ k_) ∧ k_ ≠ gb552) ho0 (fun k_ hk_ => ⟨(Nat.le_trans (below_size (by repeat (first | (with_reducible first | exact HB.out | apply below_alloc | apply pw_below_drewN | apply below_drew1 | refine below_set ?_ GE552.out) | exact HB.out))) hk_), (Kd.freshB (g := gb552) (o := .cells #[.string (⟨#[]⟩ : ByteArray), .slice none 0 0, .slice none 0 0, .slice none 0 0, .int .i64 0, .int .i64 0] 57 (0, 0)) (by (with_reducible repeat (first | refine blk_drewN ?_ _ | refine blk_drew ?_ | refine blk_alloc ?_ _)); exact BK552.out) k_ hk_)⟩)) (below_size (by repeat (first | (with_reducible first | exact HB.out | apply below_alloc | apply pw_below_drewN | apply below_drew1 | refine below_set ?_ GE552.out) | exact HB.out)))); have n1_ := Aside0.mk (blk_below (g := gb552) (o := .cells #[.string (⟨#[]⟩ : ByteArray), .slice none 0 0, .slice none 0 0, .slice none 0 0, .int .i64 0, .int .i64 0] 57 (0, 0)) (by (with_reducible repeat (first | refine blk_drewN ?_ _ | refine blk_drew ?_ | refine blk_alloc ?_ _)); exact BK552.out) hb); have n2_ := Aside0.mk (below_step (by repeat (first | (with_reducible first | exact HB.out | apply below_alloc | apply pw_below_drewN | apply below_drew1 | refine below_set ?_ GE552.out) | exact HB.out)) hb); clear BK552; clear HB; have HO555 := n0_; have BK552 := n1_; have HB := n2_; clear n0_ n1_ n2_; (try clear hb); (try clear hb2); (try clear hk); (try clear hi); (try clear ho0)))
 go_loopg [5] k (fun kq v5 w' => ∃ (x5_1 : Int) (x553000_1 : ByteArray) (x553004_1 : Int) (x553005_1 : Int), v5 = .int .i64 x5_1 ∧ Aside0 (plenumref18_Find.l0 kq a0 t553 x5_1 = some (r1, r2, r3, r4, r5, r6, r7)) ∧ Aside0 (kq ≤ k) ∧ Aside0 (Kd.N k57 57 w' w.heap.size (fun k_ => (w.heap.size ≤ k_) ∧ k_ ≠ gb552) v554 t553) ∧ Aside0 (w'.heap[gb552]? = some (.cells #[.string x553000_1, (.slice none 0 0), (.slice none 0 0), (.slice none 0 0), .int .i64 x553004_1, .int .i64 x553005_1] 57 (0, 0))) ∧ Aside0 (Below w.heap.size w w'))
 case atStart => exact ⟨(0), ((⟨#[]⟩ : ByteArray)), (0), (0), (by first | rfl | (simp; done) | (simp [*]; done)), H', ⟨Nat.le_refl _⟩, ⟨by (with_reducible repeat (first | apply Kd.N_alloc | apply Kd.N_drewN | apply Kd.N_drew)); exact HO555.out⟩, ⟨by (with_reducible repeat (first | refine blk_drewN ?_ _ | refine blk_drew ?_ | refine blk_alloc ?_ _)); exact BK552.out⟩, ⟨by repeat (first | (with_reducible first | exact HB.out | apply below_alloc | apply pw_below_drewN | apply below_drew1 | refine below_set ?_ GE552.out) | exact HB.out)⟩⟩
 case round =>
  clear H'
  try clear p2
  try clear c3
  obtain ⟨x5_1, x553000_1, x553004_1, x553005_1, rfl, HA, HK1, HO_4, BK552, HB⟩ := hrel
  cases gk with
  | zero => exact absurd HA.out (by simp [plenumref18_Find.l0])
  | succ k1 =>
   have H := HA.out
   clear HA
   simp only [plenumref18_Find.l0] at H
   by_cases c5 : x5_1 < (t553.length : Int)
   ·
    rw [if_pos c5] at H
    have c5b0 : decide (x5_1 < (t553.length : Int)) = true := decide_eq_true c5
    clear c5
    by_cases c6 : 0 ≤ x5_1
    ·
     rw [if_pos c6] at H
     have c6b0 : decide (0 ≤ x5_1) = true := decide_eq_true c6
     clear c6
     by_cases c7 : ((rd_T57 t553 x5_1).f0).toList = a0.toList
     ·
      rw [if_pos c7] at H
      have c7b0 : (((rd_T57 t553 x5_1).f0).toList == a0.toList) = true := beq_iff_eq.mpr c7
      have c7b1 : (((rd_T57 t553 x5_1).f0).toList != a0.toList) = false := bne_eq_false_iff_eq.mpr c7
      clear c7
      simp only [Option.some.injEq, Prod.mk.injEq] at H
      obtain ⟨rfl, rfl, rfl, rfl, rfl, rfl, rfl⟩ := H
      obtain ⟨Ao8, co8, eo8⟩ := Kd.N_slice HO_4.out
      subst eo8
      have p556 : 0 ≤ (x5_1 : Int) := ode
      have q556 : x5_1 < (t553.length : Int) := ode
      obtain ⟨ad556, A556_1, c556_1, A556_2, c556_2, A556_3, c556_3, e556, hx556_0, hx556_1, hx556_2, hx556_3, hx556_4, hx556_5, hl556_1, hi556_1, hl556_2, hi556_2, hl556_3, hi556_3⟩ := at_T57 (Kd.N_reads' HO_4.out).2.2 x5_1 p556 q556
      cases e556
      obtain ⟨ce556, hce556, hMe556, hcc556⟩ := Kd.N_get HO_4.out z57 x5_1 p556 (by first | exact q556 | exact ode | (have e_ := (Kd.N_reads' HO_4.out).1; omega))
      obtain ⟨ua556_1, uc556_1, ua556_2, uc556_2, ua556_3, uc556_3, rfl, ul556_1, ge556_1, ul556_2, ge556_2, ul556_3, ge556_3⟩ := k57_openF hMe556
      have hv556_1 := hcc556 1 _ rfl
      rw [add_field _ _ 1 (by omega)] at hv556_1
      replace hv556_1 := Option.some.inj (hv556_1.symm.trans hx556_1)
      injection hv556_1 with hva_ hvn_ hvc_
      rw [hva_] at ge556_1
      rw [hvc_] at ul556_1
      have HL556_1 := Aside0.mk (show Kd.V k61 61 _ w.heap.size _ _ ((rd_T57 t553 x5_1).f1) from Kd.V_mk ul556_1 ge556_1)
      clear hva_ hvn_ hvc_ ge556_1 ul556_1
      have hv556_2 := hcc556 2 _ rfl
      rw [add_field _ _ 2 (by omega)] at hv556_2
      replace hv556_2 := Option.some.inj (hv556_2.symm.trans hx556_2)
      injection hv556_2 with hva_ hvn_ hvc_
      rw [hva_] at ge556_2
      rw [hvc_] at ul556_2
      have HL556_2 := Aside0.mk (show Kd.V k73 73 _ w.heap.size _ _ ((rd_T57 t553 x5_1).f2) from Kd.V_mk ul556_2 ge556_2)
      clear hva_ hvn_ hvc_ ge556_2 ul556_2
      have hv556_3 := hcc556 3 _ rfl
      rw [add_field _ _ 3 (by omega)] at hv556_3
      replace hv556_3 := Option.some.inj (hv556_3.symm.trans hx556_3)
      injection hv556_3 with hva_ hvn_ hvc_
      rw [hva_] at ge556_3
      rw [hvc_] at ul556_3
      have HL556_3 := Aside0.mk (show Kd.V k73 73 _ w.heap.size _ _ ((rd_T57 t553 x5_1).f3) from Kd.V_mk ul556_3 ge556_3)
      clear hva_ hvn_ hvc_ ge556_3 ul556_3
      clear hcc556 hce556
      have HR556_1 := Aside0.mk hi556_1
      have HC556_1 := Aside0.mk hl556_1
      clear hi556_1 hl556_1
      have HR556_2 := Aside0.mk hi556_2
      have HC556_2 := Aside0.mk hl556_2
      clear hi556_2 hl556_2
      have HR556_3 := Aside0.mk hi556_3
      have HC556_3 := Aside0.mk hl556_3
      clear hi556_3 hl556_3
      replace p556 := eq_true p556
      replace q556 := eq_true q556
      have p557 : 0 ≤ (x5_1 : Int) := ode
      have q557 : x5_1 < (t553.length : Int) := ode
      obtain ⟨ad557, A557_1, c557_1, A557_2, c557_2, A557_3, c557_3, e557, hx557_0, hx557_1, hx557_2, hx557_3, hx557_4, hx557_5, hl557_1, hi557_1, hl557_2, hi557_2, hl557_3, hi557_3⟩ := at_T57 (Kd.N_reads' HO_4.out).2.2 x5_1 p557 q557
      obtain rfl : ad556 = ad557 := (by injection e557)
      obtain ⟨ce557, hce557, hMe557, hcc557⟩ := Kd.N_get HO_4.out z57 x5_1 p557 (by first | exact q557 | exact ode | (have e_ := (Kd.N_reads' HO_4.out).1; omega))
      obtain ⟨ua557_1, uc557_1, ua557_2, uc557_2, ua557_3, uc557_3, rfl, ul557_1, ge557_1, ul557_2, ge557_2, ul557_3, ge557_3⟩ := k57_openF hMe557
      have hv557_1 := hcc557 1 _ rfl
      rw [add_field _ _ 1 (by omega)] at hv557_1
      replace hv557_1 := Option.some.inj (hv557_1.symm.trans hx557_1)
      injection hv557_1 with hva_ hvn_ hvc_
      rw [hva_] at ge557_1
      rw [hvc_] at ul557_1
      have HL557_1 := Aside0.mk (show Kd.V k61 61 _ w.heap.size _ _ ((rd_T57 t553 x5_1).f1) from Kd.V_mk ul557_1 ge557_1)
      clear hva_ hvn_ hvc_ ge557_1 ul557_1
      have hv557_2 := hcc557 2 _ rfl
      rw [add_field _ _ 2 (by omega)] at hv557_2
      replace hv557_2 := Option.some.inj (hv557_2.symm.trans hx557_2)
      injection hv557_2 with hva_ hvn_ hvc_
      rw [hva_] at ge557_2
      rw [hvc_] at ul557_2
      have HL557_2 := Aside0.mk (show Kd.V k73 73 _ w.heap.size _ _ ((rd_T57 t553 x5_1).f2) from Kd.V_mk ul557_2 ge557_2)
      clear hva_ hvn_ hvc_ ge557_2 ul557_2
      have hv557_3 := hcc557 3 _ rfl
      rw [add_field _ _ 3 (by omega)] at hv557_3
      replace hv557_3 := Option.some.inj (hv557_3.symm.trans hx557_3)
      injection hv557_3 with hva_ hvn_ hvc_
      rw [hva_] at ge557_3
      rw [hvc_] at ul557_3
      have HL557_3 := Aside0.mk (show Kd.V k73 73 _ w.heap.size _ _ ((rd_T57 t553 x5_1).f3) from Kd.V_mk ul557_3 ge557_3)
      clear hva_ hvn_ hvc_ ge557_3 ul557_3
      clear hcc557 hce557
      have HR557_1 := Aside0.mk hi557_1
      have HC557_1 := Aside0.mk hl557_1
      clear hi557_1 hl557_1
      have HR557_2 := Aside0.mk hi557_2
      have HC557_2 := Aside0.mk hl557_2
      clear hi557_2 hl557_2
      have HR557_3 := Aside0.mk hi557_3
      have HC557_3 := Aside0.mk hl557_3
      clear hi557_3 hl557_3
      replace p557 := eq_true p557
      replace q557 := eq_true q557
      have ea_ := Option.some.inj (hx556_1.symm.trans hx557_1)
      injection ea_ with ea_ en_ ec_
      subst ea_
      subst ec_
      clear en_
      have ea_ := Option.some.inj (hx556_2.symm.trans hx557_2)
      injection ea_ with ea_ en_ ec_
      subst ea_
      subst ec_
      clear en_
      have ea_ := Option.some.inj (hx556_3.symm.trans hx557_3)
      injection ea_ with ea_ en_ ec_
      subst ea_
      subst ec_
      clear en_
      have hcz9_0 : wr.cell? ⟨gb552, 0, none⟩ = some (.string x553000_1) := (blk_cell BK552.out 0).trans rfl
      have hcz9_1 : wr.cell? ⟨gb552, 1, none⟩ = some (.slice none 0 0) := (blk_cell BK552.out 1).trans rfl
      have hcz9_2 : wr.cell? ⟨gb552, 2, none⟩ = some (.slice none 0 0) := (blk_cell BK552.out 2).trans rfl
      have hcz9_3 : wr.cell? ⟨gb552, 3, none⟩ = some (.slice none 0 0) := (blk_cell BK552.out 3).trans rfl
      have hcz9_4 : wr.cell? ⟨gb552, 4, none⟩ = some (.int .i64 x553004_1) := (blk_cell BK552.out 4).trans rfl
      have hcz9_5 : wr.cell? ⟨gb552, 5, none⟩ = some (.int .i64 x553005_1) := (blk_cell BK552.out 5).trans rfl
      have hfz9_0 := blk_frozen BK552.out 0
      have hfz9_1 := blk_frozen BK552.out 1
      have hfz9_2 := blk_frozen BK552.out 2
      have hfz9_3 := blk_frozen BK552.out 3
      have hfz9_4 := blk_frozen BK552.out 4
      have hfz9_5 := blk_frozen BK552.out 5
      go_wp2
      refine bodyPost_ret (results_ct rfl _ _ gb552 57 #[.string ((rd_T57 t553 x5_1).f0), .slice A556_1 ((rd_T57 t553 x5_1).f1).length c556_1, .slice A556_2 ((rd_T57 t553 x5_1).f2).length c556_2, .slice A556_3 ((rd_T57 t553 x5_1).f3).length c556_3, .int .i64 ((rd_T57 t553 x5_1).f4), .int .i64 ((rd_T57 t553 x5_1).f5)] (0, 0) _ rfl (by (with_reducible repeat (first | refine blk_drewN ?_ _ | refine blk_drew ?_ | refine blk_alloc ?_ _)); refine blk_put (cs := #[.string ((rd_T57 t553 x5_1).f0), .slice A556_1 ((rd_T57 t553 x5_1).f1).length c556_1, .slice A556_2 ((rd_T57 t553 x5_1).f2).length c556_2, .slice A556_3 ((rd_T57 t553 x5_1).f3).length c556_3, .int .i64 ((rd_T57 t553 x5_1).f4), .int .i64 x553005_1]) ?_ 5 _ rfl; (with_reducible repeat (first | refine blk_drewN ?_ _ | refine blk_drew ?_ | refine blk_alloc ?_ _)); refine blk_put (cs := #[.string ((rd_T57 t553 x5_1).f0), .slice A556_1 ((rd_T57 t553 x5_1).f1).length c556_1, .slice A556_2 ((rd_T57 t553 x5_1).f2).length c556_2, .slice A556_3 ((rd_T57 t553 x5_1).f3).length c556_3, .int .i64 x553004_1, .int .i64 x553005_1]) ?_ 4 _ rfl; (with_reducible repeat (first | refine blk_drewN ?_ _ | refine blk_drew ?_ | refine blk_alloc ?_ _)); refine blk_put (cs := #[.string ((rd_T57 t553 x5_1).f0), .slice A556_1 ((rd_T57 t553 x5_1).f1).length c556_1, .slice A556_2 ((rd_T57 t553 x5_1).f2).length c556_2, .slice none 0 0, .int .i64 x553004_1, .int .i64 x553005_1]) ?_ 3 _ rfl; (with_reducible repeat (first | refine blk_drewN ?_ _ | refine blk_drew ?_ | refine blk_alloc ?_ _)); refine blk_put (cs := #[.string ((rd_T57 t553 x5_1).f0), .slice A556_1 ((rd_T57 t553 x5_1).f1).length c556_1, .slice none 0 0, .slice none 0 0, .int .i64 x553004_1, .int .i64 x553005_1]) ?_ 2 _ rfl; (with_reducible repeat (first | refine blk_drewN ?_ _ | refine blk_drew ?_ | refine blk_alloc ?_ _)); refine blk_put (cs := #[.string ((rd_T57 t553 x5_1).f0), .slice none 0 0, .slice none 0 0, .slice none 0 0, .int .i64 x553004_1, .int .i64 x553005_1]) ?_ 1 _ rfl; (with_reducible repeat (first | refine blk_drewN ?_ _ | refine blk_drew ?_ | refine blk_alloc ?_ _)); refine blk_put (cs := #[.string x553000_1, .slice none 0 0, .slice none 0 0, .slice none 0 0, .int .i64 x553004_1, .int .i64 x553005_1]) ?_ 0 _ rfl; (with_reducible repeat (first | refine blk_drewN ?_ _ | refine blk_drew ?_ | refine blk_alloc ?_ _)); exact BK552.out) Tryd.underlying57 rfl (by kernel_rfl)) rfl ?_
      exact ⟨_, _, _, by first | rfl | (simp [errW_none, errW_some] <;> rfl) | (simp [*, errW_none, errW_some] <;> rfl), by (with_reducible repeat (first | apply Kd.V_alloc | apply Kd.V_drewN | apply Kd.V_drew)); exact Kd.V_mono (Kd.V_far (p := ⟨gb552, 5, none⟩) (Kd.V_far (p := ⟨gb552, 4, none⟩) (Kd.V_far (p := ⟨gb552, 3, none⟩) (Kd.V_far (p := ⟨gb552, 2, none⟩) (Kd.V_far (p := ⟨gb552, 1, none⟩) (Kd.V_far (p := ⟨gb552, 0, none⟩) (Kd.V_mono HL557_1.out (fun k_ hk => (⟨hk, hk.1.2⟩ : _ ∧ k_ ≠ gb552))) (fun _ hk => hk.2) (.string ((rd_T57 t553 x5_1).f0))) (fun _ hk => hk.2) (.slice A556_1 ((rd_T57 t553 x5_1).f1).length c556_1)) (fun _ hk => hk.2) (.slice A556_2 ((rd_T57 t553 x5_1).f2).length c556_2)) (fun _ hk => hk.2) (.slice A556_3 ((rd_T57 t553 x5_1).f3).length c556_3)) (fun _ hk => hk.2) (.int .i64 ((rd_T57 t553 x5_1).f4))) (fun _ hk => hk.2) (.int .i64 ((rd_T57 t553 x5_1).f5))) (fun _ hk => hk.1.1.1), by (with_reducible repeat (first | apply Kd.V_alloc | apply Kd.V_drewN | apply Kd.V_drew)); exact Kd.V_mono (Kd.V_far (p := ⟨gb552, 5, none⟩) (Kd.V_far (p := ⟨gb552, 4, none⟩) (Kd.V_far (p := ⟨gb552, 3, none⟩) (Kd.V_far (p := ⟨gb552, 2, none⟩) (Kd.V_far (p := ⟨gb552, 1, none⟩) (Kd.V_far (p := ⟨gb552, 0, none⟩) (Kd.V_mono HL557_2.out (fun k_ hk => (⟨hk, hk.1.2⟩ : _ ∧ k_ ≠ gb552))) (fun _ hk => hk.2) (.string ((rd_T57 t553 x5_1).f0))) (fun _ hk => hk.2) (.slice A556_1 ((rd_T57 t553 x5_1).f1).length c556_1)) (fun _ hk => hk.2) (.slice A556_2 ((rd_T57 t553 x5_1).f2).length c556_2)) (fun _ hk => hk.2) (.slice A556_3 ((rd_T57 t553 x5_1).f3).length c556_3)) (fun _ hk => hk.2) (.int .i64 ((rd_T57 t553 x5_1).f4))) (fun _ hk => hk.2) (.int .i64 ((rd_T57 t553 x5_1).f5))) (fun _ hk => hk.1.1.1), by (with_reducible repeat (first | apply Kd.V_alloc | apply Kd.V_drewN | apply Kd.V_drew)); exact Kd.V_mono (Kd.V_far (p := ⟨gb552, 5, none⟩) (Kd.V_far (p := ⟨gb552, 4, none⟩) (Kd.V_far (p := ⟨gb552, 3, none⟩) (Kd.V_far (p := ⟨gb552, 2, none⟩) (Kd.V_far (p := ⟨gb552, 1, none⟩) (Kd.V_far (p := ⟨gb552, 0, none⟩) (Kd.V_mono HL557_3.out (fun k_ hk => (⟨hk, hk.1.2⟩ : _ ∧ k_ ≠ gb552))) (fun _ hk => hk.2) (.string ((rd_T57 t553 x5_1).f0))) (fun _ hk => hk.2) (.slice A556_1 ((rd_T57 t553 x5_1).f1).length c556_1)) (fun _ hk => hk.2) (.slice A556_2 ((rd_T57 t553 x5_1).f2).length c556_2)) (fun _ hk => hk.2) (.slice A556_3 ((rd_T57 t553 x5_1).f3).length c556_3)) (fun _ hk => hk.2) (.int .i64 ((rd_T57 t553 x5_1).f4))) (fun _ hk => hk.2) (.int .i64 ((rd_T57 t553 x5_1).f5))) (fun _ hk => hk.1.1.1), by repeat (first | (with_reducible first | exact HB.out | apply below_alloc | apply pw_below_drewN | apply below_drew1 | refine below_set ?_ GE552.out) | exact HB.out)⟩
     ·
      rw [if_neg c7] at H
      have c7b0 : (((rd_T57 t553 x5_1).f0).toList == a0.toList) = false := beq_eq_false_iff_ne.mpr c7
      have c7b1 : (((rd_T57 t553 x5_1).f0).toList != a0.toList) = true := bne_iff_ne.mpr c7
      have H' := Aside0.mk H
      clear H
      obtain ⟨Ao10, co10, eo10⟩ := Kd.N_slice HO_4.out
      subst eo10
      have p556 : 0 ≤ (x5_1 : Int) := ode
      have q556 : x5_1 < (t553.length : Int) := ode
      obtain ⟨ad556, A556_1, c556_1, A556_2, c556_2, A556_3, c556_3, e556, hx556_0, hx556_1, hx556_2, hx556_3, hx556_4, hx556_5, hl556_1, hi556_1, hl556_2, hi556_2, hl556_3, hi556_3⟩ := at_T57 (Kd.N_reads' HO_4.out).2.2 x5_1 p556 q556
      cases e556
      obtain ⟨ce556, hce556, hMe556, hcc556⟩ := Kd.N_get HO_4.out z57 x5_1 p556 (by first | exact q556 | exact ode | (have e_ := (Kd.N_reads' HO_4.out).1; omega))
      obtain ⟨ua556_1, uc556_1, ua556_2, uc556_2, ua556_3, uc556_3, rfl, ul556_1, ge556_1, ul556_2, ge556_2, ul556_3, ge556_3⟩ := k57_openF hMe556
      have hv556_1 := hcc556 1 _ rfl
      rw [add_field _ _ 1 (by omega)] at hv556_1
      replace hv556_1 := Option.some.inj (hv556_1.symm.trans hx556_1)
      injection hv556_1 with hva_ hvn_ hvc_
      rw [hva_] at ge556_1
      rw [hvc_] at ul556_1
      have HL556_1 := Aside0.mk (show Kd.V k61 61 _ w.heap.size _ _ ((rd_T57 t553 x5_1).f1) from Kd.V_mk ul556_1 ge556_1)
      clear hva_ hvn_ hvc_ ge556_1 ul556_1
      have hv556_2 := hcc556 2 _ rfl
      rw [add_field _ _ 2 (by omega)] at hv556_2
      replace hv556_2 := Option.some.inj (hv556_2.symm.trans hx556_2)
      injection hv556_2 with hva_ hvn_ hvc_
      rw [hva_] at ge556_2
      rw [hvc_] at ul556_2
      have HL556_2 := Aside0.mk (show Kd.V k73 73 _ w.heap.size _ _ ((rd_T57 t553 x5_1).f2) from Kd.V_mk ul556_2 ge556_2)
      clear hva_ hvn_ hvc_ ge556_2 ul556_2
      have hv556_3 := hcc556 3 _ rfl
      rw [add_field _ _ 3 (by omega)] at hv556_3
      replace hv556_3 := Option.some.inj (hv556_3.symm.trans hx556_3)
      injection hv556_3 with hva_ hvn_ hvc_
      rw [hva_] at ge556_3
      rw [hvc_] at ul556_3
      have HL556_3 := Aside0.mk (show Kd.V k73 73 _ w.heap.size _ _ ((rd_T57 t553 x5_1).f3) from Kd.V_mk ul556_3 ge556_3)
      clear hva_ hvn_ hvc_ ge556_3 ul556_3
      clear hcc556 hce556
      have HR556_1 := Aside0.mk hi556_1
      have HC556_1 := Aside0.mk hl556_1
      clear hi556_1 hl556_1
      have HR556_2 := Aside0.mk hi556_2
      have HC556_2 := Aside0.mk hl556_2
      clear hi556_2 hl556_2
      have HR556_3 := Aside0.mk hi556_3
      have HC556_3 := Aside0.mk hl556_3
      clear hi556_3 hl556_3
      replace p556 := eq_true p556
      replace q556 := eq_true q556
      go_wp2
      go_roundg k1
      case measure => have := HK1.out; omega
      case rel => exact ⟨(wrap64 (x5_1 + 1)), (x553000_1), (x553004_1), (x553005_1), (by first | rfl | (simp; done) | (simp [*]; done)), H', ⟨by have := HK1.out; omega⟩, ⟨by (with_reducible repeat (first | apply Kd.N_alloc | apply Kd.N_drewN | apply Kd.N_drew)); exact HO_4.out⟩, ⟨by (with_reducible repeat (first | refine blk_drewN ?_ _ | refine blk_drew ?_ | refine blk_alloc ?_ _)); exact BK552.out⟩, ⟨by repeat (first | (with_reducible first | exact HB.out | apply below_alloc | apply pw_below_drewN | apply below_drew1 | refine below_set ?_ GE552.out) | exact HB.out)⟩⟩
    ·
     rw [if_neg c6] at H
     exact absurd H (by simp)
   ·
    rw [if_neg c5] at H
    have c5b0 : decide (x5_1 < (t553.length : Int)) = false := decide_eq_false c5
    clear c5
    simp only [Option.some.injEq, Prod.mk.injEq] at H
    obtain ⟨rfl, rfl, rfl, rfl, rfl, rfl, rfl⟩ := H
    obtain ⟨Ao11, co11, eo11⟩ := Kd.N_slice HO_4.out
    subst eo11
    have hcz12_0 : wr.cell? ⟨gb552, 0, none⟩ = some (.string x553000_1) := (blk_cell BK552.out 0).trans rfl
    have hcz12_1 : wr.cell? ⟨gb552, 1, none⟩ = some (.slice none 0 0) := (blk_cell BK552.out 1).trans rfl
    have hcz12_2 : wr.cell? ⟨gb552, 2, none⟩ = some (.slice none 0 0) := (blk_cell BK552.out 2).trans rfl
    have hcz12_3 : wr.cell? ⟨gb552, 3, none⟩ = some (.slice none 0 0) := (blk_cell BK552.out 3).trans rfl
    have hcz12_4 : wr.cell? ⟨gb552, 4, none⟩ = some (.int .i64 x553004_1) := (blk_cell BK552.out 4).trans rfl
    have hcz12_5 : wr.cell? ⟨gb552, 5, none⟩ = some (.int .i64 x553005_1) := (blk_cell BK552.out 5).trans rfl
    have hfz12_0 := blk_frozen BK552.out 0
    have hfz12_1 := blk_frozen BK552.out 1
    have hfz12_2 := blk_frozen BK552.out 2
    have hfz12_3 := blk_frozen BK552.out 3
    have hfz12_4 := blk_frozen BK552.out 4
    have hfz12_5 := blk_frozen BK552.out 5
    go_wp2
    refine bodyPost_ret (results_ct rfl _ _ gb552 57 #[.string (⟨#[]⟩ : ByteArray), .slice none 0 0, .slice none 0 0, .slice none 0 0, .int .i64 0, .int .i64 0] (0, 0) _ rfl (by (with_reducible repeat (first | refine blk_drewN ?_ _ | refine blk_drew ?_ | refine blk_alloc ?_ _)); refine blk_put (cs := #[.string (⟨#[]⟩ : ByteArray), .slice none 0 0, .slice none 0 0, .slice none 0 0, .int .i64 0, .int .i64 x553005_1]) ?_ 5 _ rfl; (with_reducible repeat (first | refine blk_drewN ?_ _ | refine blk_drew ?_ | refine blk_alloc ?_ _)); refine blk_put (cs := #[.string (⟨#[]⟩ : ByteArray), .slice none 0 0, .slice none 0 0, .slice none 0 0, .int .i64 x553004_1, .int .i64 x553005_1]) ?_ 4 _ rfl; (with_reducible repeat (first | refine blk_drewN ?_ _ | refine blk_drew ?_ | refine blk_alloc ?_ _)); refine blk_put (cs := #[.string (⟨#[]⟩ : ByteArray), .slice none 0 0, .slice none 0 0, .slice none 0 0, .int .i64 x553004_1, .int .i64 x553005_1]) ?_ 3 _ rfl; (with_reducible repeat (first | refine blk_drewN ?_ _ | refine blk_drew ?_ | refine blk_alloc ?_ _)); refine blk_put (cs := #[.string (⟨#[]⟩ : ByteArray), .slice none 0 0, .slice none 0 0, .slice none 0 0, .int .i64 x553004_1, .int .i64 x553005_1]) ?_ 2 _ rfl; (with_reducible repeat (first | refine blk_drewN ?_ _ | refine blk_drew ?_ | refine blk_alloc ?_ _)); refine blk_put (cs := #[.string (⟨#[]⟩ : ByteArray), .slice none 0 0, .slice none 0 0, .slice none 0 0, .int .i64 x553004_1, .int .i64 x553005_1]) ?_ 1 _ rfl; (with_reducible repeat (first | refine blk_drewN ?_ _ | refine blk_drew ?_ | refine blk_alloc ?_ _)); refine blk_put (cs := #[.string x553000_1, .slice none 0 0, .slice none 0 0, .slice none 0 0, .int .i64 x553004_1, .int .i64 x553005_1]) ?_ 0 _ rfl; (with_reducible repeat (first | refine blk_drewN ?_ _ | refine blk_drew ?_ | refine blk_alloc ?_ _)); exact BK552.out) Tryd.underlying57 rfl (by kernel_rfl)) rfl ?_
    exact ⟨_, _, _, by first | rfl | (simp [errW_none, errW_some] <;> rfl) | (simp [*, errW_none, errW_some] <;> rfl), Kd.R_V (by first | exact Kd.R_nil _ _ _ _ _ | exact Kd.R_nil _ _ _ 0 _ | exact Kd.N_nil _ _ _ _ _ | exact Kd.V_nil _ _ _ _ _ | exact Kd.Q_nil _ _ _ _ _ | exact Kd.S_nil _ _ _ _ _), Kd.R_V (by first | exact Kd.R_nil _ _ _ _ _ | exact Kd.R_nil _ _ _ 0 _ | exact Kd.N_nil _ _ _ _ _ | exact Kd.V_nil _ _ _ _ _ | exact Kd.Q_nil _ _ _ _ _ | exact Kd.S_nil _ _ _ _ _), Kd.R_V (by first | exact Kd.R_nil _ _ _ _ _ | exact Kd.R_nil _ _ _ 0 _ | exact Kd.N_nil _ _ _ _ _ | exact Kd.V_nil _ _ _ _ _ | exact Kd.Q_nil _ _ _ _ _ | exact Kd.S_nil _ _ _ _ _), by repeat (first | (with_reducible first | exact HB.out | apply below_alloc | apply pw_below_drewN | apply below_drew1 | refine below_set ?_ GE552.out) | exact HB.out)⟩

/-! ### plenumref21_Check: function 15 -/
mutual
def plenumref21_Check.j0 : Nat → ByteArray → List Int → Bool → Option (Int)
 | 0, _, _, _ => none
 | k + 1, x0, x1, x13 => if x13 = true then (some 3) else ((plenumref18_Find.f k x0).bind fun bt558 => (if (x1.length : Int) = (bt558.2.1.length : Int) then (plenumref21_Check.l0 k x1 0 bt558.1 bt558.2.1 bt558.2.2.1 bt558.2.2.2.1 bt558.2.2.2.2.1 bt558.2.2.2.2.2.1) else (some 1)))
def plenumref21_Check.l0 : Nat → List Int → Int → ByteArray → List (S61) → List (S73) → List (S73) → Int → Int → Option (Int)
 | 0, _, _, _, _, _, _, _, _ => none
 | k + 1, x1, x7, x572000, x572001, x572002, x572003, x572004, x572005 => if x7 < (x1.length : Int) then (if 0 ≤ x7 then (if x7 < (x572001.length : Int) then (if (rd x1 x7) < ((rd_T61 x572001 x7).f1) then (some 6) else (if (rd x1 x7) > ((rd_T61 x572001 x7).f2) then (some 6) else (plenumref21_Check.l0 k x1 (wrap64 (x7 + 1)) x572000 x572001 x572002 x572003 x572004 x572005))) else (none)) else (none)) else (some 0)
end
def plenumref21_Check.f (k : Nat) (a0 : ByteArray) (l1 : List Int) : Option (Int) := if a0.toList = ([115, 116, 97, 103, 101] : List UInt8) then (plenumref21_Check.j0 k a0 l1 false) else (plenumref21_Check.j0 k a0 l1 (a0.toList != ([115, 116, 101, 112, 115] : List UInt8)))
theorem plenumref21_Check.mono_l : ∀ k, (∀ y0 y1 y2, LeO (plenumref21_Check.j0 k y0 y1 y2) (plenumref21_Check.j0 (k + 1) y0 y1 y2)) ∧ (∀ y0 y1 y2 y3 y4 y5 y6 y7, LeO (plenumref21_Check.l0 k y0 y1 y2 y3 y4 y5 y6 y7) (plenumref21_Check.l0 (k + 1) y0 y1 y2 y3 y4 y5 y6 y7))
 | 0 => ⟨fun _ _ _ r h => by simp [plenumref21_Check.j0] at h, fun _ _ _ _ _ _ _ _ r h => by simp [plenumref21_Check.l0] at h⟩
 | k + 1 => by
  obtain ⟨ih0, ih1⟩ := plenumref21_Check.mono_l k
  refine ⟨?_, ?_⟩
  ·
   intro y0 y1 y2
   unfold plenumref21_Check.j0
   repeat' first
   | (with_reducible exact ih0 _ _ _)
   | (with_reducible exact ih1 _ _ _ _ _ _ _ _)
   | (with_reducible exact plenumref18_Find.mono _ _)
   | (with_reducible exact LeO.refl _)
   | (with_reducible exact LeO.none _)
   | (with_reducible refine LeO.ite ?_ ?_)
   | (with_reducible refine LeO.bind ?_ (fun _ => ?_))
   | exact ih0 _ _ _
   | exact ih1 _ _ _ _ _ _ _ _
   | exact plenumref18_Find.mono _ _
   | exact LeO.none _
   | refine LeO.ite ?_ ?_
   | refine LeO.bind ?_ (fun _ => ?_)
  ·
   intro y0 y1 y2 y3 y4 y5 y6 y7
   unfold plenumref21_Check.l0
   repeat' first
   | (with_reducible exact ih0 _ _ _)
   | (with_reducible exact ih1 _ _ _ _ _ _ _ _)
   | (with_reducible exact plenumref18_Find.mono _ _)
   | (with_reducible exact LeO.refl _)
   | (with_reducible exact LeO.none _)
   | (with_reducible refine LeO.ite ?_ ?_)
   | (with_reducible refine LeO.bind ?_ (fun _ => ?_))
   | exact ih0 _ _ _
   | exact ih1 _ _ _ _ _ _ _ _
   | exact plenumref18_Find.mono _ _
   | exact LeO.none _
   | refine LeO.ite ?_ ?_
   | refine LeO.bind ?_ (fun _ => ?_)
theorem plenumref21_Check.mono : ∀ a0 a1 k, LeO (plenumref21_Check.f k a0 a1) (plenumref21_Check.f (k + 1) a0 a1) := by
 intro a0 a1 k
 obtain ⟨ih0, ih1⟩ := plenumref21_Check.mono_l k
 unfold plenumref21_Check.f
 repeat' first
   | (with_reducible exact ih0 _ _ _)
   | (with_reducible exact ih1 _ _ _ _ _ _ _ _)
   | (with_reducible exact plenumref18_Find.mono _ _)
   | (with_reducible exact LeO.refl _)
   | (with_reducible exact LeO.none _)
   | (with_reducible refine LeO.ite ?_ ?_)
   | (with_reducible refine LeO.bind ?_ (fun _ => ?_))
   | exact ih0 _ _ _
   | exact ih1 _ _ _ _ _ _ _ _
   | exact plenumref18_Find.mono _ _
   | exact LeO.none _
   | refine LeO.ite ?_ ?_
   | refine LeO.bind ?_ (fun _ => ?_)
set_option maxHeartbeats 8000000 in
set_option maxRecDepth 100000 in
theorem plenumref21_Check.calls (k : Nat) (a0 : ByteArray) (A1 : Option Addr) (c1 : Nat) (l1 : List Int) (r : Int) (w : World) (hr1 : Kd.C (Kd.int .i64) w A1 l1.length l1) (hc1 : l1.length ≤ c1) (h : plenumref21_Check.f k a0 l1 = some r) :
  Calls Tryd.prog 15 #[.string a0, .slice A1 l1.length c1] w fun e w' => e = .returned (.int .i64 r) ∧ Below w.heap.size w w' := by
 have hu57 := Tryd.underlying57
 have HR1 := Aside0.mk hr1
 have HC1 := Aside0.mk hc1
 clear hr1 hc1
 have HB := Aside0.mk (Below.refl w.heap.size w)
 have H : (if a0.toList = ([115, 116, 97, 103, 101] : List UInt8) then (plenumref21_Check.j0 k a0 l1 false) else (plenumref21_Check.j0 k a0 l1 (a0.toList != ([115, 116, 101, 112, 115] : List UInt8)))) = some r := h
 clear h
 have HC3 := Aside0.mk H
 clear H
 go_enter Tryd.func15, Tryd.ntmps15
 go_upto_region 1 with (fail)
 repeat (go_quiet (fail); go_upto_region 1 with (fail))
 go_cut [13] (fun v13 wc => ∃ (kq : Nat) (x13_2 : Bool), v13 = .bool x13_2 ∧ Aside0 (plenumref21_Check.j0 kq a0 l1 x13_2 = some r) ∧ Aside0 (kq ≤ k) ∧ Aside0 (Below w.heap.size w wc))
 case first =>
  have H := HC3.out
  clear HC3
  by_cases c4 : a0.toList = ([115, 116, 97, 103, 101] : List UInt8)
  ·
   rw [if_pos c4] at H
   have c4b0 : (a0.toList == ([115, 116, 97, 103, 101] : List UInt8)) = true := beq_iff_eq.mpr c4
   have c4b1 : (a0.toList != ([115, 116, 97, 103, 101] : List UInt8)) = false := bne_eq_false_iff_eq.mpr c4
   clear c4
   (first | rw [c4b0] | (simp only [i64_w, i32_w]; rw [c4b0]) | skip)
   have H' := Aside0.mk H
   clear H
   go_wp2
   repeat (go_quiet (fail); try go_wp2)
   go_meet
   case rel => exact ⟨_, (false), (by first | rfl | (simp; done) | (simp [*]; done)), H', ⟨by first | omega | exact Nat.le_refl _⟩, ⟨bl⟩⟩
  ·
   rw [if_neg c4] at H
   have c4b0 : (a0.toList == ([115, 116, 97, 103, 101] : List UInt8)) = false := beq_eq_false_iff_ne.mpr c4
   have c4b1 : (a0.toList != ([115, 116, 97, 103, 101] : List UInt8)) = true := bne_iff_ne.mpr c4
   (first | rw [c4b0] | (simp only [i64_w, i32_w]; rw [c4b0]) | skip)
   have H' := Aside0.mk H
   clear H
   go_wp2
   repeat (go_quiet (fail); try go_wp2)
   go_meet
   case rel => exact ⟨_, ((a0.toList != ([115, 116, 101, 112, 115] : List UInt8))), (by first | rfl | (simp; done) | (simp [*]; done)), H', ⟨by first | omega | exact Nat.le_refl _⟩, ⟨bl⟩⟩
 case rest =>
  clear HC3
  try clear c1
  try clear p2
  try clear c4
  try clear c4b0
  try clear c4b1
  obtain ⟨kq, x13_2, rfl, HA, HJ2, HB⟩ := hcut
  cases kq with
  | zero => exact absurd HA.out (by simp [plenumref21_Check.j0])
  | succ kj2 =>
   have H := HA.out
   clear HA
   simp only [plenumref21_Check.j0] at H
   by_cases c5 : x13_2 = true
   ·
    subst c5
    rw [if_pos rfl] at H
    obtain rfl := Option.some.inj H
    go_wp2
    repeat (go_quiet (fail); try go_wp2)
    go_ret
    exact ⟨by first | rfl | (simp [errW_none, errW_some] <;> rfl) | (simp [*, errW_none, errW_some] <;> rfl), bl⟩
   ·
    replace c5 := Bool.eq_false_iff.mpr c5
    subst c5
    rw [if_neg (show ¬ (false = true) by decide)] at H
    replace H := Option.bind_eq_some_iff.mp H
    obtain ⟨⟨t558, t559, t562, t565, t568, t569, t570⟩, A60, H⟩ := H
    replace H : (if (l1.length : Int) = (t559.length : Int) then (plenumref21_Check.l0 kj2 l1 0 t558 t559 t562 t565 t568 t569) else (some 1)) = some r := H
    have A6 := Aside0.mk A60
    clear A60
    by_cases c7 : (l1.length : Int) = (t559.length : Int)
    ·
     rw [if_pos c7] at H
     have c7b0 : ((l1.length : Int) == (t559.length : Int)) = true := beq_iff_eq.mpr c7
     have c7b1 : ((l1.length : Int) != (t559.length : Int)) = false := bne_eq_false_iff_eq.mpr c7
     have c7b2 : (l1.length == t559.length) = true := by first | simpa using c7 | (simp at c7 ⊢; omega)
     clear c7
     have H' := Aside0.mk H
     clear H
     go_wp2_with (first | (go_at_call 33; (with_reducible refine (plenumref18_Find.calls kj2 a0 t558 t559 t562 t565 t568 t569 t570 _ A6.out).mono ?_); rintro e w8 ⟨v560, v563, v566, rfl, ho0, ho1, ho2, hb⟩; have n0_ := Aside0.mk (Kd.V_lower (Kd.V_mono (ok' := fun k_ => True) ho0 (fun k_ hk_ => trivial)) (below_size bl)); have n1_ := Aside0.mk (Kd.V_lower (Kd.V_mono (ok' := fun k_ => True) ho1 (fun k_ hk_ => trivial)) (below_size bl)); have n2_ := Aside0.mk (Kd.V_lower (Kd.V_mono (ok' := fun k_ => True) ho2 (fun k_ hk_ => trivial)) (below_size bl)); have n3_ := Aside0.mk (below_step bl hb); clear HB; have HO561 := n0_; have HO564 := n1_; have HO567 := n2_; have HB := n3_; clear n0_ n1_ n2_ n3_; (try clear hb); (try clear hb2); (try clear hk); (try clear hi); (try clear ho0); (try clear ho1); (try clear ho2)) | ((with_reducible refine gate_dst (N := 5) rfl ?_); refine box_event ?hg (N := 5) ?hd (cs := #[.string (⟨#[]⟩ : ByteArray), .slice none 0 0, .slice none 0 0, .slice none 0 0, .int .i64 0, .int .i64 0]) (t := 57) ?hr ?_; (case hd => rfl); (case hg => rfl); (case hr => first | (go_simp; done) | (go_simp; rfl)); intro gb571 hg w9 hbox hb; have n0_ := Aside0.mk (Kd.V_below (Kd.V_elderB (by (with_reducible repeat (first | apply Kd.V_alloc | apply Kd.V_drewN | apply Kd.V_drew)); exact HO561.out) gb571 (Nat.le_of_eq hg.symm)) hb); have n1_ := Aside0.mk (Kd.V_below (Kd.V_elderB (by (with_reducible repeat (first | apply Kd.V_alloc | apply Kd.V_drewN | apply Kd.V_drew)); exact HO564.out) gb571 (Nat.le_of_eq hg.symm)) hb); have n2_ := Aside0.mk (Kd.V_below (Kd.V_elderB (by (with_reducible repeat (first | apply Kd.V_alloc | apply Kd.V_drewN | apply Kd.V_drew)); exact HO567.out) gb571 (Nat.le_of_eq hg.symm)) hb); have n3_ := Aside0.mk (below_step bl hb); have n4_ := Aside0.mk (hbox); have n5_ := Aside0.mk ((by rw [hg]; exact (below_size bl) : w.heap.size ≤ gb571)); have n6_ := Aside0.mk ((by rw [hg]; exact (below_size bl) : w.heap.size ≤ gb571)); clear HO561; clear HO564; clear HO567; clear HB; have HO561 := n0_; have HO564 := n1_; have HO567 := n2_; have HB := n3_; have BK571 := n4_; have GW571 := n5_; have GE571 := n6_; clear n0_ n1_ n2_ n3_ n4_ n5_ n6_; clear hb hbox hg; have hcz10_0 : w9.cell? ⟨gb571, 0, none⟩ = some (.string (⟨#[]⟩ : ByteArray)) := (blk_cell BK571.out 0).trans rfl; have hcz10_1 : w9.cell? ⟨gb571, 1, none⟩ = some (.slice none 0 0) := (blk_cell BK571.out 1).trans rfl; have hcz10_2 : w9.cell? ⟨gb571, 2, none⟩ = some (.slice none 0 0) := (blk_cell BK571.out 2).trans rfl; have hcz10_3 : w9.cell? ⟨gb571, 3, none⟩ = some (.slice none 0 0) := (blk_cell BK571.out 3).trans rfl; have hcz10_4 : w9.cell? ⟨gb571, 4, none⟩ = some (.int .i64 0) := (blk_cell BK571.out 4).trans rfl; have hcz10_5 : w9.cell? ⟨gb571, 5, none⟩ = some (.int .i64 0) := (blk_cell BK571.out 5).trans rfl; have hfz10_0 := blk_frozen BK571.out 0; have hfz10_1 := blk_frozen BK571.out 1; have hfz10_2 := blk_frozen BK571.out 2; have hfz10_3 := blk_frozen BK571.out 3; have hfz10_4 := blk_frozen BK571.out 4; have hfz10_5 := blk_frozen BK571.out 5; obtain ⟨Ao11, co11, eo11⟩ := Kd.V_slice HO561.out; subst eo11; obtain ⟨Ao12, co12, eo12⟩ := Kd.V_slice HO564.out; subst eo12; obtain ⟨Ao13, co13, eo13⟩ := Kd.V_slice HO567.out; subst eo13))
     go_loopg [7] kj2 (fun kq v7 w' => ∃ (x7_2 : Int), v7 = .int .i64 x7_2 ∧ Aside0 (plenumref21_Check.l0 kq l1 x7_2 t558 t559 t562 t565 t568 t569 = some r) ∧ Aside0 (kq ≤ kj2) ∧ Aside0 (Kd.V k61 61 w' w.heap.size (fun k_ => k_ ≠ gb571) (.slice Ao11 t559.length co11) t559) ∧ Aside0 (Kd.V k73 73 w' w.heap.size (fun k_ => k_ ≠ gb571) (.slice Ao12 t562.length co12) t562) ∧ Aside0 (Kd.V k73 73 w' w.heap.size (fun k_ => k_ ≠ gb571) (.slice Ao13 t565.length co13) t565) ∧ Aside0 (w'.heap[gb571]? = some (.cells #[.string t558, (.slice Ao11 t559.length co11), (.slice Ao12 t562.length co12), (.slice Ao13 t565.length co13), .int .i64 t568, .int .i64 t569] 57 (0, 0))) ∧ Aside0 (Below w.heap.size w w'))
     case atStart => exact ⟨(0), (by first | rfl | (simp; done) | (simp [*]; done)), H', ⟨Nat.le_refl _⟩, ⟨by (with_reducible repeat (first | apply Kd.V_alloc | apply Kd.V_drewN | apply Kd.V_drew)); exact Kd.V_mono (Kd.V_far (p := ⟨gb571, 5, none⟩) (Kd.V_far (p := ⟨gb571, 4, none⟩) (Kd.V_far (p := ⟨gb571, 3, none⟩) (Kd.V_far (p := ⟨gb571, 2, none⟩) (Kd.V_far (p := ⟨gb571, 1, none⟩) (Kd.V_far (p := ⟨gb571, 0, none⟩) (Kd.V_mono HO561.out (fun k_ hk => (⟨hk, hk.2⟩ : _ ∧ k_ ≠ gb571))) (fun _ hk => hk.2) (.string t558)) (fun _ hk => hk.2) (.slice Ao11 t559.length co11)) (fun _ hk => hk.2) (.slice Ao12 t562.length co12)) (fun _ hk => hk.2) (.slice Ao13 t565.length co13)) (fun _ hk => hk.2) (.int .i64 t568)) (fun _ hk => hk.2) (.int .i64 t569)) (fun _ hk => hk.1.2)⟩, ⟨by (with_reducible repeat (first | apply Kd.V_alloc | apply Kd.V_drewN | apply Kd.V_drew)); exact Kd.V_mono (Kd.V_far (p := ⟨gb571, 5, none⟩) (Kd.V_far (p := ⟨gb571, 4, none⟩) (Kd.V_far (p := ⟨gb571, 3, none⟩) (Kd.V_far (p := ⟨gb571, 2, none⟩) (Kd.V_far (p := ⟨gb571, 1, none⟩) (Kd.V_far (p := ⟨gb571, 0, none⟩) (Kd.V_mono HO564.out (fun k_ hk => (⟨hk, hk.2⟩ : _ ∧ k_ ≠ gb571))) (fun _ hk => hk.2) (.string t558)) (fun _ hk => hk.2) (.slice Ao11 t559.length co11)) (fun _ hk => hk.2) (.slice Ao12 t562.length co12)) (fun _ hk => hk.2) (.slice Ao13 t565.length co13)) (fun _ hk => hk.2) (.int .i64 t568)) (fun _ hk => hk.2) (.int .i64 t569)) (fun _ hk => hk.1.2)⟩, ⟨by (with_reducible repeat (first | apply Kd.V_alloc | apply Kd.V_drewN | apply Kd.V_drew)); exact Kd.V_mono (Kd.V_far (p := ⟨gb571, 5, none⟩) (Kd.V_far (p := ⟨gb571, 4, none⟩) (Kd.V_far (p := ⟨gb571, 3, none⟩) (Kd.V_far (p := ⟨gb571, 2, none⟩) (Kd.V_far (p := ⟨gb571, 1, none⟩) (Kd.V_far (p := ⟨gb571, 0, none⟩) (Kd.V_mono HO567.out (fun k_ hk => (⟨hk, hk.2⟩ : _ ∧ k_ ≠ gb571))) (fun _ hk => hk.2) (.string t558)) (fun _ hk => hk.2) (.slice Ao11 t559.length co11)) (fun _ hk => hk.2) (.slice Ao12 t562.length co12)) (fun _ hk => hk.2) (.slice Ao13 t565.length co13)) (fun _ hk => hk.2) (.int .i64 t568)) (fun _ hk => hk.2) (.int .i64 t569)) (fun _ hk => hk.1.2)⟩, ⟨by (with_reducible repeat (first | refine blk_drewN ?_ _ | refine blk_drew ?_ | refine blk_alloc ?_ _)); refine blk_put (cs := #[.string t558, .slice Ao11 t559.length co11, .slice Ao12 t562.length co12, .slice Ao13 t565.length co13, .int .i64 t568, .int .i64 0]) ?_ 5 _ rfl; (with_reducible repeat (first | refine blk_drewN ?_ _ | refine blk_drew ?_ | refine blk_alloc ?_ _)); refine blk_put (cs := #[.string t558, .slice Ao11 t559.length co11, .slice Ao12 t562.length co12, .slice Ao13 t565.length co13, .int .i64 0, .int .i64 0]) ?_ 4 _ rfl; (with_reducible repeat (first | refine blk_drewN ?_ _ | refine blk_drew ?_ | refine blk_alloc ?_ _)); refine blk_put (cs := #[.string t558, .slice Ao11 t559.length co11, .slice Ao12 t562.length co12, .slice none 0 0, .int .i64 0, .int .i64 0]) ?_ 3 _ rfl; (with_reducible repeat (first | refine blk_drewN ?_ _ | refine blk_drew ?_ | refine blk_alloc ?_ _)); refine blk_put (cs := #[.string t558, .slice Ao11 t559.length co11, .slice none 0 0, .slice none 0 0, .int .i64 0, .int .i64 0]) ?_ 2 _ rfl; (with_reducible repeat (first | refine blk_drewN ?_ _ | refine blk_drew ?_ | refine blk_alloc ?_ _)); refine blk_put (cs := #[.string t558, .slice none 0 0, .slice none 0 0, .slice none 0 0, .int .i64 0, .int .i64 0]) ?_ 1 _ rfl; (with_reducible repeat (first | refine blk_drewN ?_ _ | refine blk_drew ?_ | refine blk_alloc ?_ _)); refine blk_put (cs := #[.string (⟨#[]⟩ : ByteArray), .slice none 0 0, .slice none 0 0, .slice none 0 0, .int .i64 0, .int .i64 0]) ?_ 0 _ rfl; (with_reducible repeat (first | refine blk_drewN ?_ _ | refine blk_drew ?_ | refine blk_alloc ?_ _)); exact BK571.out⟩, ⟨by repeat (first | (with_reducible first | exact HB.out | apply below_alloc | apply pw_below_drewN | apply below_drew1 | refine below_set ?_ GE571.out) | exact HB.out)⟩⟩
     case round =>
      clear H'
      try clear c1
      try clear p2
      try clear c4
      try clear c4b0
      try clear c4b1
      try clear c5
      try clear c7
      try clear c7b0
      try clear c7b1
      try clear c7b2
      try clear hcz10_0
      try clear hcz10_1
      try clear hcz10_2
      try clear hcz10_3
      try clear hcz10_4
      try clear hcz10_5
      try clear hfz10_0
      try clear hfz10_1
      try clear hfz10_2
      try clear hfz10_3
      try clear hfz10_4
      try clear hfz10_5
      try clear p2
      obtain ⟨x7_2, rfl, HA, HK2, HO_572001, HO_572002, HO_572003, BK571, HB⟩ := hrel
      cases gk with
      | zero => exact absurd HA.out (by simp [plenumref21_Check.l0])
      | succ k2 =>
       have H := HA.out
       clear HA
       simp only [plenumref21_Check.l0] at H
       by_cases c14 : x7_2 < (l1.length : Int)
       ·
        rw [if_pos c14] at H
        have c14b0 : decide (x7_2 < (l1.length : Int)) = true := decide_eq_true c14
        clear c14
        by_cases c15 : 0 ≤ x7_2
        ·
         rw [if_pos c15] at H
         have c15b0 : decide (0 ≤ x7_2) = true := decide_eq_true c15
         clear c15
         by_cases c16 : x7_2 < (t559.length : Int)
         ·
          rw [if_pos c16] at H
          have c16b0 : decide (x7_2 < (t559.length : Int)) = true := decide_eq_true c16
          clear c16
          by_cases c17 : (rd l1 x7_2) < ((rd_T61 t559 x7_2).f1)
          ·
           rw [if_pos c17] at H
           have c17b0 : decide ((rd l1 x7_2) < ((rd_T61 t559 x7_2).f1)) = true := decide_eq_true c17
           clear c17
           obtain rfl := Option.some.inj H
           have p572 : 0 ≤ (x7_2 : Int) := ode
           have q572 : x7_2 < (l1.length : Int) := ode
           obtain ⟨ad572, e572, hx572_0⟩ := Kd.at_int HR1.out x7_2 p572 q572
           cases e572
           replace hx572_0 := (HB.out.cell (World.block_lt_of_cell? w _ hx572_0)).trans hx572_0
           replace p572 := eq_true p572
           replace q572 := eq_true q572
           have hcz18_0 : wr.cell? ⟨gb571, 0, none⟩ = some (.string t558) := (blk_cell BK571.out 0).trans rfl
           have hcz18_1 : wr.cell? ⟨gb571, 1, none⟩ = some (.slice Ao11 t559.length co11) := (blk_cell BK571.out 1).trans rfl
           have hcz18_2 : wr.cell? ⟨gb571, 2, none⟩ = some (.slice Ao12 t562.length co12) := (blk_cell BK571.out 2).trans rfl
           have hcz18_3 : wr.cell? ⟨gb571, 3, none⟩ = some (.slice Ao13 t565.length co13) := (blk_cell BK571.out 3).trans rfl
           have hcz18_4 : wr.cell? ⟨gb571, 4, none⟩ = some (.int .i64 t568) := (blk_cell BK571.out 4).trans rfl
           have hcz18_5 : wr.cell? ⟨gb571, 5, none⟩ = some (.int .i64 t569) := (blk_cell BK571.out 5).trans rfl
           have hfz18_0 := blk_frozen BK571.out 0
           have hfz18_1 := blk_frozen BK571.out 1
           have hfz18_2 := blk_frozen BK571.out 2
           have hfz18_3 := blk_frozen BK571.out 3
           have hfz18_4 := blk_frozen BK571.out 4
           have hfz18_5 := blk_frozen BK571.out 5
           have p573 : 0 ≤ (x7_2 : Int) := ode
           have q573 : x7_2 < (t559.length : Int) := ode
           obtain ⟨ad573, e573, hx573_0, hx573_1, hx573_2, hx573_3⟩ := at_T61 (Kd.V_reads' HO_572001.out).2.2 x7_2 p573 q573
           cases e573
           replace p573 := eq_true p573
           replace q573 := eq_true q573
           go_wp2
           repeat (go_quiet (fail); try go_wp2)
           go_ret
           exact ⟨by first | rfl | (simp [errW_none, errW_some] <;> rfl) | (simp [*, errW_none, errW_some] <;> rfl), by repeat (first | (with_reducible first | exact HB.out | apply below_alloc | apply pw_below_drewN | apply below_drew1 | refine below_set ?_ GE571.out) | exact HB.out)⟩
          ·
           rw [if_neg c17] at H
           have c17b0 : decide ((rd l1 x7_2) < ((rd_T61 t559 x7_2).f1)) = false := decide_eq_false c17
           clear c17
           by_cases c19 : (rd l1 x7_2) > ((rd_T61 t559 x7_2).f2)
           ·
            rw [if_pos c19] at H
            have c19b0 : decide (((rd_T61 t559 x7_2).f2) < (rd l1 x7_2)) = true := decide_eq_true c19
            clear c19
            obtain rfl := Option.some.inj H
            have p572 : 0 ≤ (x7_2 : Int) := ode
            have q572 : x7_2 < (l1.length : Int) := ode
            obtain ⟨ad572, e572, hx572_0⟩ := Kd.at_int HR1.out x7_2 p572 q572
            cases e572
            replace hx572_0 := (HB.out.cell (World.block_lt_of_cell? w _ hx572_0)).trans hx572_0
            replace p572 := eq_true p572
            replace q572 := eq_true q572
            have hcz20_0 : wr.cell? ⟨gb571, 0, none⟩ = some (.string t558) := (blk_cell BK571.out 0).trans rfl
            have hcz20_1 : wr.cell? ⟨gb571, 1, none⟩ = some (.slice Ao11 t559.length co11) := (blk_cell BK571.out 1).trans rfl
            have hcz20_2 : wr.cell? ⟨gb571, 2, none⟩ = some (.slice Ao12 t562.length co12) := (blk_cell BK571.out 2).trans rfl
            have hcz20_3 : wr.cell? ⟨gb571, 3, none⟩ = some (.slice Ao13 t565.length co13) := (blk_cell BK571.out 3).trans rfl
            have hcz20_4 : wr.cell? ⟨gb571, 4, none⟩ = some (.int .i64 t568) := (blk_cell BK571.out 4).trans rfl
            have hcz20_5 : wr.cell? ⟨gb571, 5, none⟩ = some (.int .i64 t569) := (blk_cell BK571.out 5).trans rfl
            have hfz20_0 := blk_frozen BK571.out 0
            have hfz20_1 := blk_frozen BK571.out 1
            have hfz20_2 := blk_frozen BK571.out 2
            have hfz20_3 := blk_frozen BK571.out 3
            have hfz20_4 := blk_frozen BK571.out 4
            have hfz20_5 := blk_frozen BK571.out 5
            have p573 : 0 ≤ (x7_2 : Int) := ode
            have q573 : x7_2 < (t559.length : Int) := ode
            obtain ⟨ad573, e573, hx573_0, hx573_1, hx573_2, hx573_3⟩ := at_T61 (Kd.V_reads' HO_572001.out).2.2 x7_2 p573 q573
            cases e573
            replace p573 := eq_true p573
            replace q573 := eq_true q573
            have p574 : 0 ≤ (x7_2 : Int) := ode
            have q574 : x7_2 < (l1.length : Int) := ode
            obtain ⟨ad574, e574, hx574_0⟩ := Kd.at_int HR1.out x7_2 p574 q574
            obtain rfl : ad572 = ad574 := (by injection e574)
            replace hx574_0 := (HB.out.cell (World.block_lt_of_cell? w _ hx574_0)).trans hx574_0
            replace p574 := eq_true p574
            replace q574 := eq_true q574
            have p575 : 0 ≤ (x7_2 : Int) := ode
            have q575 : x7_2 < (t559.length : Int) := ode
            obtain ⟨ad575, e575, hx575_0, hx575_1, hx575_2, hx575_3⟩ := at_T61 (Kd.V_reads' HO_572001.out).2.2 x7_2 p575 q575
            obtain rfl : ad573 = ad575 := (by injection e575)
            replace p575 := eq_true p575
            replace q575 := eq_true q575
            go_wp2
            repeat (go_quiet (fail); try go_wp2)
            go_ret
            exact ⟨by first | rfl | (simp [errW_none, errW_some] <;> rfl) | (simp [*, errW_none, errW_some] <;> rfl), by repeat (first | (with_reducible first | exact HB.out | apply below_alloc | apply pw_below_drewN | apply below_drew1 | refine below_set ?_ GE571.out) | exact HB.out)⟩
           ·
            rw [if_neg c19] at H
            have c19b0 : decide (((rd_T61 t559 x7_2).f2) < (rd l1 x7_2)) = false := decide_eq_false c19
            clear c19
            have H' := Aside0.mk H
            clear H
            have p572 : 0 ≤ (x7_2 : Int) := ode
            have q572 : x7_2 < (l1.length : Int) := ode
            obtain ⟨ad572, e572, hx572_0⟩ := Kd.at_int HR1.out x7_2 p572 q572
            cases e572
            replace hx572_0 := (HB.out.cell (World.block_lt_of_cell? w _ hx572_0)).trans hx572_0
            replace p572 := eq_true p572
            replace q572 := eq_true q572
            have hcz21_0 : wr.cell? ⟨gb571, 0, none⟩ = some (.string t558) := (blk_cell BK571.out 0).trans rfl
            have hcz21_1 : wr.cell? ⟨gb571, 1, none⟩ = some (.slice Ao11 t559.length co11) := (blk_cell BK571.out 1).trans rfl
            have hcz21_2 : wr.cell? ⟨gb571, 2, none⟩ = some (.slice Ao12 t562.length co12) := (blk_cell BK571.out 2).trans rfl
            have hcz21_3 : wr.cell? ⟨gb571, 3, none⟩ = some (.slice Ao13 t565.length co13) := (blk_cell BK571.out 3).trans rfl
            have hcz21_4 : wr.cell? ⟨gb571, 4, none⟩ = some (.int .i64 t568) := (blk_cell BK571.out 4).trans rfl
            have hcz21_5 : wr.cell? ⟨gb571, 5, none⟩ = some (.int .i64 t569) := (blk_cell BK571.out 5).trans rfl
            have hfz21_0 := blk_frozen BK571.out 0
            have hfz21_1 := blk_frozen BK571.out 1
            have hfz21_2 := blk_frozen BK571.out 2
            have hfz21_3 := blk_frozen BK571.out 3
            have hfz21_4 := blk_frozen BK571.out 4
            have hfz21_5 := blk_frozen BK571.out 5
            have p573 : 0 ≤ (x7_2 : Int) := ode
            have q573 : x7_2 < (t559.length : Int) := ode
            obtain ⟨ad573, e573, hx573_0, hx573_1, hx573_2, hx573_3⟩ := at_T61 (Kd.V_reads' HO_572001.out).2.2 x7_2 p573 q573
            cases e573
            replace p573 := eq_true p573
            replace q573 := eq_true q573
            have p574 : 0 ≤ (x7_2 : Int) := ode
            have q574 : x7_2 < (l1.length : Int) := ode
            obtain ⟨ad574, e574, hx574_0⟩ := Kd.at_int HR1.out x7_2 p574 q574
            obtain rfl : ad572 = ad574 := (by injection e574)
            replace hx574_0 := (HB.out.cell (World.block_lt_of_cell? w _ hx574_0)).trans hx574_0
            replace p574 := eq_true p574
            replace q574 := eq_true q574
            have p575 : 0 ≤ (x7_2 : Int) := ode
            have q575 : x7_2 < (t559.length : Int) := ode
            obtain ⟨ad575, e575, hx575_0, hx575_1, hx575_2, hx575_3⟩ := at_T61 (Kd.V_reads' HO_572001.out).2.2 x7_2 p575 q575
            obtain rfl : ad573 = ad575 := (by injection e575)
            replace p575 := eq_true p575
            replace q575 := eq_true q575
            go_wp2
            repeat (go_quiet (fail); try go_wp2)
            go_roundg k2
            case measure => have := HJ2.out; have := HK2.out; omega
            case rel => exact ⟨(wrap64 (x7_2 + 1)), (by first | rfl | (simp; done) | (simp [*]; done)), H', ⟨by have := HJ2.out; have := HK2.out; omega⟩, ⟨by (with_reducible repeat (first | apply Kd.V_alloc | apply Kd.V_drewN | apply Kd.V_drew)); exact HO_572001.out⟩, ⟨by (with_reducible repeat (first | apply Kd.V_alloc | apply Kd.V_drewN | apply Kd.V_drew)); exact HO_572002.out⟩, ⟨by (with_reducible repeat (first | apply Kd.V_alloc | apply Kd.V_drewN | apply Kd.V_drew)); exact HO_572003.out⟩, ⟨by (with_reducible repeat (first | refine blk_drewN ?_ _ | refine blk_drew ?_ | refine blk_alloc ?_ _)); exact BK571.out⟩, ⟨by repeat (first | (with_reducible first | exact HB.out | apply below_alloc | apply pw_below_drewN | apply below_drew1 | refine below_set ?_ GE571.out) | exact HB.out)⟩⟩
         ·
          rw [if_neg c16] at H
          exact absurd H (by simp)
        ·
         rw [if_neg c15] at H
         exact absurd H (by simp)
       ·
        rw [if_neg c14] at H
        have c14b0 : decide (x7_2 < (l1.length : Int)) = false := decide_eq_false c14
        clear c14
        obtain rfl := Option.some.inj H
        go_wp2
        repeat (go_quiet (fail); try go_wp2)
        go_ret
        exact ⟨by first | rfl | (simp [errW_none, errW_some] <;> rfl) | (simp [*, errW_none, errW_some] <;> rfl), by repeat (first | (with_reducible first | exact HB.out | apply below_alloc | apply pw_below_drewN | apply below_drew1 | refine below_set ?_ GE571.out) | exact HB.out)⟩
    ·
     rw [if_neg c7] at H
     have c7b0 : ((l1.length : Int) == (t559.length : Int)) = false := beq_eq_false_iff_ne.mpr c7
     have c7b1 : ((l1.length : Int) != (t559.length : Int)) = true := bne_iff_ne.mpr c7
     have c7b2 : (l1.length == t559.length) = false := by first | simpa using c7 | (simp at c7 ⊢; omega)
     obtain rfl := Option.some.inj H
     go_wp2_with (first | (go_at_call 33; (with_reducible refine (plenumref18_Find.calls kj2 a0 t558 t559 t562 t565 t568 t569 t570 _ A6.out).mono ?_); rintro e w22 ⟨v560, v563, v566, rfl, ho0, ho1, ho2, hb⟩; have n0_ := Aside0.mk (Kd.V_lower (Kd.V_mono (ok' := fun k_ => True) ho0 (fun k_ hk_ => trivial)) (below_size bl)); have n1_ := Aside0.mk (Kd.V_lower (Kd.V_mono (ok' := fun k_ => True) ho1 (fun k_ hk_ => trivial)) (below_size bl)); have n2_ := Aside0.mk (Kd.V_lower (Kd.V_mono (ok' := fun k_ => True) ho2 (fun k_ hk_ => trivial)) (below_size bl)); have n3_ := Aside0.mk (below_step bl hb); clear HB; have HO561 := n0_; have HO564 := n1_; have HO567 := n2_; have HB := n3_; clear n0_ n1_ n2_ n3_; (try clear hb); (try clear hb2); (try clear hk); (try clear hi); (try clear ho0); (try clear ho1); (try clear ho2)) | ((with_reducible refine gate_dst (N := 5) rfl ?_); refine box_event ?hg (N := 5) ?hd (cs := #[.string (⟨#[]⟩ : ByteArray), .slice none 0 0, .slice none 0 0, .slice none 0 0, .int .i64 0, .int .i64 0]) (t := 57) ?hr ?_; (case hd => rfl); (case hg => rfl); (case hr => first | (go_simp; done) | (go_simp; rfl)); intro gb571 hg w23 hbox hb; have n0_ := Aside0.mk (Kd.V_below (Kd.V_elderB (by (with_reducible repeat (first | apply Kd.V_alloc | apply Kd.V_drewN | apply Kd.V_drew)); exact HO561.out) gb571 (Nat.le_of_eq hg.symm)) hb); have n1_ := Aside0.mk (Kd.V_below (Kd.V_elderB (by (with_reducible repeat (first | apply Kd.V_alloc | apply Kd.V_drewN | apply Kd.V_drew)); exact HO564.out) gb571 (Nat.le_of_eq hg.symm)) hb); have n2_ := Aside0.mk (Kd.V_below (Kd.V_elderB (by (with_reducible repeat (first | apply Kd.V_alloc | apply Kd.V_drewN | apply Kd.V_drew)); exact HO567.out) gb571 (Nat.le_of_eq hg.symm)) hb); have n3_ := Aside0.mk (below_step bl hb); have n4_ := Aside0.mk (hbox); have n5_ := Aside0.mk ((by rw [hg]; exact (below_size bl) : w.heap.size ≤ gb571)); have n6_ := Aside0.mk ((by rw [hg]; exact (below_size bl) : w.heap.size ≤ gb571)); clear HO561; clear HO564; clear HO567; clear HB; have HO561 := n0_; have HO564 := n1_; have HO567 := n2_; have HB := n3_; have BK571 := n4_; have GW571 := n5_; have GE571 := n6_; clear n0_ n1_ n2_ n3_ n4_ n5_ n6_; clear hb hbox hg; have hcz24_0 : w23.cell? ⟨gb571, 0, none⟩ = some (.string (⟨#[]⟩ : ByteArray)) := (blk_cell BK571.out 0).trans rfl; have hcz24_1 : w23.cell? ⟨gb571, 1, none⟩ = some (.slice none 0 0) := (blk_cell BK571.out 1).trans rfl; have hcz24_2 : w23.cell? ⟨gb571, 2, none⟩ = some (.slice none 0 0) := (blk_cell BK571.out 2).trans rfl; have hcz24_3 : w23.cell? ⟨gb571, 3, none⟩ = some (.slice none 0 0) := (blk_cell BK571.out 3).trans rfl; have hcz24_4 : w23.cell? ⟨gb571, 4, none⟩ = some (.int .i64 0) := (blk_cell BK571.out 4).trans rfl; have hcz24_5 : w23.cell? ⟨gb571, 5, none⟩ = some (.int .i64 0) := (blk_cell BK571.out 5).trans rfl; have hfz24_0 := blk_frozen BK571.out 0; have hfz24_1 := blk_frozen BK571.out 1; have hfz24_2 := blk_frozen BK571.out 2; have hfz24_3 := blk_frozen BK571.out 3; have hfz24_4 := blk_frozen BK571.out 4; have hfz24_5 := blk_frozen BK571.out 5; obtain ⟨Ao25, co25, eo25⟩ := Kd.V_slice HO561.out; subst eo25; obtain ⟨Ao26, co26, eo26⟩ := Kd.V_slice HO564.out; subst eo26; obtain ⟨Ao27, co27, eo27⟩ := Kd.V_slice HO567.out; subst eo27))
     go_ret
     exact ⟨by first | rfl | (simp [errW_none, errW_some] <;> rfl) | (simp [*, errW_none, errW_some] <;> rfl), by repeat (first | (with_reducible first | exact HB.out | apply below_alloc | apply pw_below_drewN | apply below_drew1 | refine below_set ?_ GE571.out) | exact HB.out)⟩

/-! ### plenumref21_time: function 28 -/
def plenumref21_time.f (a0 : Int) : Option (Bool) := if a0 ≥ 1 then (some (decide (a0 ≤ 86400))) else (some false)
set_option maxHeartbeats 8000000 in
set_option maxRecDepth 100000 in
theorem plenumref21_time.calls (a0 : Int) (r : Bool) (w : World) (h : plenumref21_time.f a0 = some r) :
  Calls Tryd.prog 28 #[.int .i64 a0] w fun e w' => e = .returned (.bool r) ∧ Drawn0 w w' := by
 have H : (if a0 ≥ 1 then (some (decide (a0 ≤ 86400))) else (some false)) = some r := h
 clear h
 by_cases c2 : a0 ≥ 1
 ·
  rw [if_pos c2] at H
  have c2b0 : decide (1 ≤ a0) = true := decide_eq_true c2
  clear c2
  obtain rfl := Option.some.inj H
  go_enter Tryd.func28, Tryd.ntmps28
  go_wp2
  go_ret
  exact ⟨by first | rfl | (simp; done) | (simp [*]; done), by repeat (first | exact Drawn0.refl _ | apply Drawn0.step)⟩
 ·
  rw [if_neg c2] at H
  have c2b0 : decide (1 ≤ a0) = false := decide_eq_false c2
  clear c2
  obtain rfl := Option.some.inj H
  go_enter Tryd.func28, Tryd.ntmps28
  go_wp2
  go_ret
  exact ⟨by first | rfl | (simp; done) | (simp [*]; done), by repeat (first | exact Drawn0.refl _ | apply Drawn0.step)⟩

/-! ### plenumref21_Time: function 17 -/
def plenumref21_Time.f (a0 : Int) : Option (Bool) := (plenumref21_time.f a0).bind fun t676 => (some t676)
set_option maxHeartbeats 8000000 in
set_option maxRecDepth 100000 in
theorem plenumref21_Time.calls (a0 : Int) (r : Bool) (w : World) (h : plenumref21_Time.f a0 = some r) :
  Calls Tryd.prog 17 #[.int .i64 a0] w fun e w' => e = .returned (.bool r) ∧ Drawn0 w w' := by
 have H : ((plenumref21_time.f a0).bind fun t676 => (some t676)) = some r := h
 clear h
 replace H := Option.bind_eq_some_iff.mp H
 obtain ⟨t676, A20, H⟩ := H
 replace H : (some t676) = some r := H
 have A2 := Aside0.mk A20
 clear A20
 obtain rfl := Option.some.inj H
 go_enter Tryd.func17, Tryd.ntmps17
 go_wp2_with (first | ((with_reducible refine gate_callee (f := 28) rfl ?_); refine goesL_ (some 4) rfl rfl Tryd.func28 (by kernel_rfl) rfl #[.int .i64 a0] rfl aeq ?_; (with_reducible refine (plenumref21_time.calls a0 t676 _ A2.out).mono ?_); rintro e w' ⟨rfl, ⟨nd, rfl⟩⟩; refine ⟨_, rfl, ?_⟩))
 go_ret
 exact ⟨by first | rfl | (simp; done) | (simp [*]; done), by repeat (first | exact Drawn0.refl _ | apply Drawn0.step)⟩

end Go.Proofs.YtcpncmjjbfbdhaaDoor.R
