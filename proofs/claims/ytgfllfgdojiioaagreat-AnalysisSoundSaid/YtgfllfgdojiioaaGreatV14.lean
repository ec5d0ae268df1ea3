import Derived.Test.YtgfllfgdojiioaaGreatPvDef
namespace Go.M14
open Go.Pv
def src : IV := .str [102, 117, 110, 99, 32, 102, 40, 41, 32, 118, 97, 114, 32, 105, 32, 123, 32, 119, 104, 105, 108, 101, 32, 40, 105, 32, 60, 32, 57, 41, 32, 123, 32, 105, 32, 61, 32, 105, 32, 43, 32, 49, 59, 32, 125, 32, 114, 101, 116, 117, 114, 110, 32, 105, 59, 32, 125]
def prg : IV := .agg [.vslice none 0 0 2 [], .vslice none 0 1 9 [.str [102], .vslice none 0 0 1 [], .vslice none 0 1 1 [.str [105]], .vslice none 0 1 17 [.int .i64 4, .str [], .str [], .int .i64 0,
 .int .i64 0, .int .i64 0, .str [], .int .i64 0, .vslice none 0 0 5 [], .int .i64 4, .int .i64 0, .str [], .int .i64 17, .vslice none 0 2 5 [.int .i64 2, .int .i64 0, .str [105],
 .int .i64 0, .vslice none 0 0 5 [], .int .i64 1, .int .i64 9, .str [], .int .i64 0, .vslice none 0 0 5 []], .vslice none 0 0 5 [], .vslice none 0 1 17 [.int .i64 1, .str [105],
 .str [], .int .i64 0, .int .i64 0, .int .i64 0, .str [], .int .i64 0, .vslice none 0 0 5 [], .int .i64 4, .int .i64 0, .str [], .int .i64 4, .vslice none 0 2 5 [.int .i64 2, .int
 .i64 0, .str [105], .int .i64 0, .vslice none 0 0 5 [], .int .i64 1, .int .i64 1, .str [], .int .i64 0, .vslice none 0 0 5 []], .vslice none 0 0 5 [], .vslice none 0 0 17 [],
 .vslice none 0 0 17 []], .vslice none 0 0 17 []], .int .i64 2, .int .i64 0, .str [105], .int .i64 0, .vslice none 0 0 5 []]]
def gph : IV := .agg [.str [102], .int .i64 0, .vslice none 0 14 3 [.int .i64 26, .int .i64 0, .vslice none 0 0 1 [], .int .i64 1, .int .i64 0, .vslice none 0 0 1 [], .int .i64 1, .int .i64 9, .vslice
 none 0 0 1 [], .int .i64 17, .int .i64 0, .vslice none 0 2 1 [.int .i64 1, .int .i64 2], .int .i64 3, .int .i64 0, .vslice none 0 0 1 [], .int .i64 3, .int .i64 1, .vslice none 0
 0 1 [], .int .i64 1, .int .i64 1, .vslice none 0 0 1 [], .int .i64 4, .int .i64 0, .vslice none 0 2 1 [.int .i64 5, .int .i64 6], .int .i64 17, .int .i64 0, .vslice none 0 2 1
 [.int .i64 7, .int .i64 2], .int .i64 31, .int .i64 0, .vslice none 0 5 1 [.int .i64 0, .int .i64 1, .int .i64 8, .int .i64 4, .int .i64 7], .int .i64 25, .int .i64 0, .vslice
 none 0 1 1 [.int .i64 9], .int .i64 22, .int .i64 0, .vslice none 0 3 1 [.int .i64 3, .int .i64 10, .int .i64 0], .int .i64 25, .int .i64 1, .vslice none 0 1 1 [.int .i64 9], .int
 .i64 22, .int .i64 0, .vslice none 0 3 1 [.int .i64 3, .int .i64 12, .int .i64 1]], .int .i64 13, .int .i64 11]
def unit : IV := .agg [.vslice none 0 0 2 [], .vslice none 0 1 5 [.str [102], .int .i64 0, .vslice none 0 14 3 [.int .i64 26, .int .i64 0, .vslice none 0 0 1 [], .int .i64 1, .int .i64 0, .vslice
 none 0 0 1 [], .int .i64 1, .int .i64 9, .vslice none 0 0 1 [], .int .i64 17, .int .i64 0, .vslice none 0 2 1 [.int .i64 1, .int .i64 2], .int .i64 3, .int .i64 0, .vslice none 0
 0 1 [], .int .i64 3, .int .i64 1, .vslice none 0 0 1 [], .int .i64 1, .int .i64 1, .vslice none 0 0 1 [], .int .i64 4, .int .i64 0, .vslice none 0 2 1 [.int .i64 5, .int .i64 6],
 .int .i64 17, .int .i64 0, .vslice none 0 2 1 [.int .i64 7, .int .i64 2], .int .i64 31, .int .i64 0, .vslice none 0 5 1 [.int .i64 0, .int .i64 1, .int .i64 8, .int .i64 4, .int
 .i64 7], .int .i64 25, .int .i64 0, .vslice none 0 1 1 [.int .i64 9], .int .i64 22, .int .i64 0, .vslice none 0 3 1 [.int .i64 3, .int .i64 10, .int .i64 0], .int .i64 25, .int
 .i64 1, .vslice none 0 1 1 [.int .i64 9], .int .i64 22, .int .i64 0, .vslice none 0 3 1 [.int .i64 3, .int .i64 12, .int .i64 1]], .int .i64 13, .int .i64 11]]
def inv : IV := .vslice none 0 1 3 [.int .i64 1, .int .i64 0, .int .i64 8]
def nerr : IV := .int .i64 0
end Go.M14
