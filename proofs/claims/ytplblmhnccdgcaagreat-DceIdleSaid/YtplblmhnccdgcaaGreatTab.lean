/- The table of the abstract machine: what the seat's types and functions are; printed by a program. -/
import Derived.Test.YtplblmhnccdgcaaGreatProg
import Derived.KernelRfl
import Derived.Test.YtplblmhnccdgcaaGreatAm
set_option maxRecDepth 100000
namespace Go.Proofs.YtplblmhnccdgcaaGreat.AM
open Go Go.Proofs
def ty2 : TI := { kind := 5, size := 1, bytes := 8, zero := [.int .i64 0], elem := 0, es := 0, eb := 0, ez := [], kz := .nilptr, eagg := false, fields := [] }
def ty3 : TI := { kind := 5, size := 1, bytes := 8, zero := [.int .i64 0], elem := 0, es := 0, eb := 0, ez := [], kz := .nilptr, eagg := false, fields := [] }
def ty4 : TI := { kind := 6, size := 1, bytes := 1, zero := [.bool false], elem := 0, es := 0, eb := 0, ez := [], kz := .nilptr, eagg := false, fields := [] }
def ty5 : TI := { kind := 5, size := 1, bytes := 1, zero := [.int .u8 0], elem := 0, es := 0, eb := 0, ez := [], kz := .nilptr, eagg := false, fields := [] }
def ty6 : TI := { kind := 5, size := 1, bytes := 1, zero := [.int .u8 0], elem := 0, es := 0, eb := 0, ez := [], kz := .nilptr, eagg := false, fields := [] }
def ty7 : TI := { kind := 2, size := 4, bytes := 24, zero := [.int .i64 0, .int .i64 0, .bool false, .int .u8 0], elem := 0, es := 0, eb := 0, ez := [], kz := .nilptr, eagg := true, fields := [(0, (1, false)), (1, (1, false)), (2, (1, false)), (3, (1, false))] }
def ty8 : TI := { kind := 2, size := 4, bytes := 24, zero := [.int .i64 0, .int .i64 0, .bool false, .int .u8 0], elem := 0, es := 0, eb := 0, ez := [], kz := .nilptr, eagg := true, fields := [(0, (1, false)), (1, (1, false)), (2, (1, false)), (3, (1, false))] }
def ty9 : TI := { kind := 4, size := 1, bytes := 16, zero := [.str []], elem := 0, es := 0, eb := 0, ez := [], kz := .nilptr, eagg := false, fields := [] }
def ty10 : TI := { kind := 4, size := 1, bytes := 16, zero := [.str []], elem := 0, es := 0, eb := 0, ez := [], kz := .nilptr, eagg := false, fields := [] }
def ty11 : TI := { kind := 4, size := 1, bytes := 16, zero := [.str []], elem := 0, es := 0, eb := 0, ez := [], kz := .nilptr, eagg := false, fields := [] }
def ty12 : TI := { kind := 5, size := 1, bytes := 8, zero := [.int .u64 0], elem := 0, es := 0, eb := 0, ez := [], kz := .nilptr, eagg := false, fields := [] }
def ty13 : TI := { kind := 2, size := 2, bytes := 24, zero := [.str [], .int .u64 0], elem := 0, es := 0, eb := 0, ez := [], kz := .nilptr, eagg := false, fields := [(0, (1, false)), (1, (1, false))] }
def ty14 : TI := { kind := 2, size := 2, bytes := 24, zero := [.str [], .int .u64 0], elem := 0, es := 0, eb := 0, ez := [], kz := .nilptr, eagg := false, fields := [(0, (1, false)), (1, (1, false))] }
def ty15 : TI := { kind := 7, size := 1, bytes := 8, zero := [.nilptr], elem := 0, es := 0, eb := 0, ez := [], kz := .nilptr, eagg := false, fields := [] }
def ty16 : TI := { kind := 7, size := 1, bytes := 8, zero := [.nilptr], elem := 0, es := 0, eb := 0, ez := [], kz := .nilptr, eagg := false, fields := [] }
def ty17 : TI := { kind := 7, size := 1, bytes := 8, zero := [.nilptr], elem := 0, es := 0, eb := 0, ez := [], kz := .nilptr, eagg := false, fields := [] }
def ty18 : TI := { kind := 2, size := 1, bytes := 8, zero := [.nilptr], elem := 0, es := 0, eb := 0, ez := [], kz := .nilptr, eagg := false, fields := [(0, (1, false))] }
def ty19 : TI := { kind := 2, size := 1, bytes := 8, zero := [.nilptr], elem := 0, es := 0, eb := 0, ez := [], kz := .nilptr, eagg := false, fields := [(0, (1, false))] }
def ty21 : TI := { kind := 5, size := 1, bytes := 4, zero := [.int .i32 0], elem := 0, es := 0, eb := 0, ez := [], kz := .nilptr, eagg := false, fields := [] }
def ty22 : TI := { kind := 1, size := 1, bytes := 24, zero := [.nilslice], elem := 0, es := 1, eb := 8, ez := [.int .i64 0], kz := .nilptr, eagg := false, fields := [] }
def ty24 : TI := { kind := 1, size := 1, bytes := 24, zero := [.nilslice], elem := 0, es := 1, eb := 8, ez := [.int .i64 0], kz := .nilptr, eagg := false, fields := [] }
def ty25 : TI := { kind := 2, size := 7, bytes := 88, zero := [.int .i64 0, .int .i64 0, .int .i64 0, .int .i64 0, .int .i64 0, .nilslice, .nilslice], elem := 0, es := 0, eb := 0, ez := [], kz := .nilptr, eagg := false, fields := [(0, (1, false)), (1, (1, false)), (2, (1, false)), (3, (1, false)), (4, (1, false)), (5, (1, false)), (6, (1, false))] }
def ty26 : TI := { kind := 2, size := 7, bytes := 88, zero := [.int .i64 0, .int .i64 0, .int .i64 0, .int .i64 0, .int .i64 0, .nilslice, .nilslice], elem := 0, es := 0, eb := 0, ez := [], kz := .nilptr, eagg := false, fields := [(0, (1, false)), (1, (1, false)), (2, (1, false)), (3, (1, false)), (4, (1, false)), (5, (1, false)), (6, (1, false))] }
def ty27 : TI := { kind := 1, size := 1, bytes := 24, zero := [.nilslice], elem := 0, es := 7, eb := 88, ez := [.int .i64 0, .int .i64 0, .int .i64 0, .int .i64 0, .int .i64 0, .nilslice, .nilslice], kz := .nilptr, eagg := false, fields := [] }
def ty28 : TI := { kind := 1, size := 1, bytes := 24, zero := [.nilslice], elem := 0, es := 3, eb := 48, ez := [.str [], .nilslice, .int .i64 0], kz := .nilptr, eagg := false, fields := [] }
def ty29 : TI := { kind := 1, size := 1, bytes := 24, zero := [.nilslice], elem := 0, es := 2, eb := 40, ez := [.str [], .nilslice], kz := .nilptr, eagg := false, fields := [] }
def ty30 : TI := { kind := 1, size := 1, bytes := 24, zero := [.nilslice], elem := 0, es := 2, eb := 40, ez := [.str [], .nilslice], kz := .nilptr, eagg := false, fields := [] }
def ty31 : TI := { kind := 1, size := 1, bytes := 24, zero := [.nilslice], elem := 0, es := 5, eb := 80, ez := [.str [], .bool false, .nilslice, .int .i64 0, .nilslice], kz := .nilptr, eagg := false, fields := [] }
def ty32 : TI := { kind := 2, size := 4, bytes := 96, zero := [.nilslice, .nilslice, .nilslice, .nilslice], elem := 0, es := 0, eb := 0, ez := [], kz := .nilptr, eagg := false, fields := [(0, (1, false)), (1, (1, false)), (2, (1, false)), (3, (1, false))] }
def ty33 : TI := { kind := 2, size := 4, bytes := 96, zero := [.nilslice, .nilslice, .nilslice, .nilslice], elem := 0, es := 0, eb := 0, ez := [], kz := .nilptr, eagg := false, fields := [(0, (1, false)), (1, (1, false)), (2, (1, false)), (3, (1, false))] }
def ty34 : TI := { kind := 5, size := 1, bytes := 8, zero := [.int .i64 0], elem := 0, es := 0, eb := 0, ez := [], kz := .nilptr, eagg := false, fields := [] }
def ty37 : TI := { kind := 2, size := 2, bytes := 40, zero := [.str [], .nilslice], elem := 0, es := 0, eb := 0, ez := [], kz := .nilptr, eagg := false, fields := [(0, (1, false)), (1, (1, false))] }
def ty38 : TI := { kind := 2, size := 2, bytes := 40, zero := [.str [], .nilslice], elem := 0, es := 0, eb := 0, ez := [], kz := .nilptr, eagg := false, fields := [(0, (1, false)), (1, (1, false))] }
def ty39 : TI := { kind := 2, size := 1, bytes := 24, zero := [.nilslice], elem := 0, es := 0, eb := 0, ez := [], kz := .nilptr, eagg := false, fields := [(0, (1, false))] }
def ty40 : TI := { kind := 2, size := 1, bytes := 24, zero := [.nilslice], elem := 0, es := 0, eb := 0, ez := [], kz := .nilptr, eagg := false, fields := [(0, (1, false))] }
def ty41 : TI := { kind := 1, size := 1, bytes := 24, zero := [.nilslice], elem := 0, es := 1, eb := 24, ez := [.nilslice], kz := .nilptr, eagg := false, fields := [] }
def ty42 : TI := { kind := 2, size := 5, bytes := 80, zero := [.str [], .bool false, .nilslice, .int .i64 0, .nilslice], elem := 0, es := 0, eb := 0, ez := [], kz := .nilptr, eagg := false, fields := [(0, (1, false)), (1, (1, false)), (2, (1, false)), (3, (1, false)), (4, (1, false))] }
def ty43 : TI := { kind := 2, size := 5, bytes := 80, zero := [.str [], .bool false, .nilslice, .int .i64 0, .nilslice], elem := 0, es := 0, eb := 0, ez := [], kz := .nilptr, eagg := false, fields := [(0, (1, false)), (1, (1, false)), (2, (1, false)), (3, (1, false)), (4, (1, false))] }
def ty51 : TI := { kind := 1, size := 1, bytes := 24, zero := [.nilslice], elem := 0, es := 1, eb := 1, ez := [.bool false], kz := .nilptr, eagg := false, fields := [] }
def ty52 : TI := { kind := 1, size := 1, bytes := 24, zero := [.nilslice], elem := 0, es := 1, eb := 24, ez := [.nilslice], kz := .nilptr, eagg := false, fields := [] }
def ty53 : TI := { kind := 1, size := 1, bytes := 24, zero := [.nilslice], elem := 0, es := 2, eb := 16, ez := [.int .i64 0, .int .i64 0], kz := .nilptr, eagg := false, fields := [] }
def ty54 : TI := { kind := 2, size := 3, bytes := 72, zero := [.nilslice, .nilslice, .nilslice], elem := 0, es := 0, eb := 0, ez := [], kz := .nilptr, eagg := false, fields := [(0, (1, false)), (1, (1, false)), (2, (1, false))] }
def ty55 : TI := { kind := 2, size := 3, bytes := 72, zero := [.nilslice, .nilslice, .nilslice], elem := 0, es := 0, eb := 0, ez := [], kz := .nilptr, eagg := false, fields := [(0, (1, false)), (1, (1, false)), (2, (1, false))] }
def ty57 : TI := { kind := 2, size := 2, bytes := 16, zero := [.int .i64 0, .int .i64 0], elem := 0, es := 0, eb := 0, ez := [], kz := .nilptr, eagg := true, fields := [(0, (1, false)), (1, (1, false))] }
def ty58 : TI := { kind := 2, size := 2, bytes := 16, zero := [.int .i64 0, .int .i64 0], elem := 0, es := 0, eb := 0, ez := [], kz := .nilptr, eagg := true, fields := [(0, (1, false)), (1, (1, false))] }
def ty60 : TI := { kind := 2, size := 3, bytes := 48, zero := [.str [], .nilslice, .int .i64 0], elem := 0, es := 0, eb := 0, ez := [], kz := .nilptr, eagg := false, fields := [(0, (1, false)), (1, (1, false)), (2, (1, false))] }
def ty61 : TI := { kind := 2, size := 3, bytes := 48, zero := [.str [], .nilslice, .int .i64 0], elem := 0, es := 0, eb := 0, ez := [], kz := .nilptr, eagg := false, fields := [(0, (1, false)), (1, (1, false)), (2, (1, false))] }
def ty67 : TI := { kind := 7, size := 1, bytes := 8, zero := [.nilptr], elem := 0, es := 0, eb := 0, ez := [], kz := .nilptr, eagg := false, fields := [] }
def ty70 : TI := { kind := 7, size := 1, bytes := 8, zero := [.nilptr], elem := 0, es := 0, eb := 0, ez := [], kz := .nilptr, eagg := false, fields := [] }
def ty71 : TI := { kind := 1, size := 1, bytes := 24, zero := [.nilslice], elem := 0, es := 1, eb := 24, ez := [.nilslice], kz := .nilptr, eagg := false, fields := [] }
def ty72 : TI := { kind := 2, size := 4, bytes := 96, zero := [.nilslice, .nilslice, .nilslice, .nilslice], elem := 0, es := 0, eb := 0, ez := [], kz := .nilptr, eagg := false, fields := [(0, (1, false)), (1, (1, false)), (2, (1, false)), (3, (1, false))] }
def ty73 : TI := { kind := 2, size := 4, bytes := 96, zero := [.nilslice, .nilslice, .nilslice, .nilslice], elem := 0, es := 0, eb := 0, ez := [], kz := .nilptr, eagg := false, fields := [(0, (1, false)), (1, (1, false)), (2, (1, false)), (3, (1, false))] }
def ty74 : TI := { kind := 1, size := 1, bytes := 24, zero := [.nilslice], elem := 0, es := 4, eb := 96, ez := [.nilslice, .nilslice, .nilslice, .nilslice], kz := .nilptr, eagg := false, fields := [] }
def ty75 : TI := { kind := 2, size := 6, bytes := 144, zero := [.nilslice, .nilslice, .nilslice, .nilslice, .nilslice, .nilslice], elem := 0, es := 0, eb := 0, ez := [], kz := .nilptr, eagg := false, fields := [(0, (4, true)), (4, (1, false)), (5, (1, false))] }
def ty76 : TI := { kind := 2, size := 6, bytes := 144, zero := [.nilslice, .nilslice, .nilslice, .nilslice, .nilslice, .nilslice], elem := 0, es := 0, eb := 0, ez := [], kz := .nilptr, eagg := false, fields := [(0, (4, true)), (4, (1, false)), (5, (1, false))] }
def ty78 : TI := { kind := 2, size := 2, bytes := 16, zero := [.int .i64 0, .int .i64 0], elem := 0, es := 0, eb := 0, ez := [], kz := .nilptr, eagg := true, fields := [(0, (1, false)), (1, (1, false))] }
def ty79 : TI := { kind := 2, size := 2, bytes := 16, zero := [.int .i64 0, .int .i64 0], elem := 0, es := 0, eb := 0, ez := [], kz := .nilptr, eagg := true, fields := [(0, (1, false)), (1, (1, false))] }
def ty80 : TI := { kind := 1, size := 1, bytes := 24, zero := [.nilslice], elem := 0, es := 2, eb := 16, ez := [.int .i64 0, .int .i64 0], kz := .nilptr, eagg := false, fields := [] }
def ty85 : TI := { kind := 5, size := 1, bytes := 8, zero := [.int .u64 0], elem := 0, es := 0, eb := 0, ez := [], kz := .nilptr, eagg := false, fields := [] }
def ty88 : TI := { kind := 5, size := 1, bytes := 8, zero := [.int .u64 0], elem := 0, es := 0, eb := 0, ez := [], kz := .nilptr, eagg := false, fields := [] }
def ty89 : TI := { kind := 7, size := 1, bytes := 8, zero := [.nilptr], elem := 0, es := 0, eb := 0, ez := [], kz := .nilptr, eagg := false, fields := [] }
def ty90 : TI := { kind := 1, size := 1, bytes := 24, zero := [.nilslice], elem := 0, es := 1, eb := 24, ez := [.nilslice], kz := .nilptr, eagg := false, fields := [] }
def ty92 : TI := { kind := 2, size := 13, bytes := 280, zero := [.nilslice, .nilslice, .nilslice, .nilslice, .nilslice, .nilslice, .nilslice, .nilslice, .nilslice, .nilslice, .nilslice, .nilchan, .nilchan], elem := 0, es := 0, eb := 0, ez := [], kz := .nilptr, eagg := false, fields := [(0, (4, true)), (4, (3, true)), (7, (1, false)), (8, (1, false)), (9, (1, false)), (10, (1, false)), (11, (1, false)), (12, (1, false))] }
def ty93 : TI := { kind := 2, size := 13, bytes := 280, zero := [.nilslice, .nilslice, .nilslice, .nilslice, .nilslice, .nilslice, .nilslice, .nilslice, .nilslice, .nilslice, .nilslice, .nilchan, .nilchan], elem := 0, es := 0, eb := 0, ez := [], kz := .nilptr, eagg := false, fields := [(0, (4, true)), (4, (3, true)), (7, (1, false)), (8, (1, false)), (9, (1, false)), (10, (1, false)), (11, (1, false)), (12, (1, false))] }
def ty98 : TI := { kind := 7, size := 1, bytes := 8, zero := [.nilptr], elem := 0, es := 0, eb := 0, ez := [], kz := .nilptr, eagg := false, fields := [] }
def ty99 : TI := { kind := 1, size := 1, bytes := 24, zero := [.nilslice], elem := 0, es := 1, eb := 24, ez := [.nilslice], kz := .nilptr, eagg := false, fields := [] }
def ty104 : TI := { kind := 1, size := 1, bytes := 24, zero := [.nilslice], elem := 0, es := 5, eb := 104, ez := [.nilslice, .nilslice, .nilslice, .nilslice, .bool false], kz := .nilptr, eagg := false, fields := [] }
def ty106 : TI := { kind := 2, size := 5, bytes := 104, zero := [.nilslice, .nilslice, .nilslice, .nilslice, .bool false], elem := 0, es := 0, eb := 0, ez := [], kz := .nilptr, eagg := false, fields := [(0, (1, false)), (1, (1, false)), (2, (1, false)), (3, (1, false)), (4, (1, false))] }
def ty107 : TI := { kind := 2, size := 5, bytes := 104, zero := [.nilslice, .nilslice, .nilslice, .nilslice, .bool false], elem := 0, es := 0, eb := 0, ez := [], kz := .nilptr, eagg := false, fields := [(0, (1, false)), (1, (1, false)), (2, (1, false)), (3, (1, false)), (4, (1, false))] }
def ty109 : TI := { kind := 2, size := 2, bytes := 40, zero := [.str [], .nilslice], elem := 0, es := 0, eb := 0, ez := [], kz := .nilptr, eagg := false, fields := [(0, (1, false)), (1, (1, false))] }
def ty110 : TI := { kind := 2, size := 2, bytes := 40, zero := [.str [], .nilslice], elem := 0, es := 0, eb := 0, ez := [], kz := .nilptr, eagg := false, fields := [(0, (1, false)), (1, (1, false))] }
def ty116 : TI := { kind := 3, size := 1, bytes := 8, zero := [.nilmap], elem := 0, es := 1, eb := 8, ez := [.int .i64 0], kz := .int .i64 0, eagg := false, fields := [] }
def ty117 : TI := { kind := 7, size := 1, bytes := 8, zero := [.nilptr], elem := 0, es := 0, eb := 0, ez := [], kz := .nilptr, eagg := false, fields := [] }
def ty121 : TI := { kind := 2, size := 4, bytes := 64, zero := [.nilslice, .nilslice, .int .i64 0, .int .i64 0], elem := 0, es := 0, eb := 0, ez := [], kz := .nilptr, eagg := false, fields := [(0, (1, false)), (1, (1, false)), (2, (2, true))] }
def ty122 : TI := { kind := 2, size := 4, bytes := 64, zero := [.nilslice, .nilslice, .int .i64 0, .int .i64 0], elem := 0, es := 0, eb := 0, ez := [], kz := .nilptr, eagg := false, fields := [(0, (1, false)), (1, (1, false)), (2, (2, true))] }
def ty125 : TI := { kind := 1, size := 1, bytes := 24, zero := [.nilslice], elem := 0, es := 1, eb := 1, ez := [.int .u8 0], kz := .nilptr, eagg := false, fields := [] }
def ty131 : TI := { kind := 3, size := 1, bytes := 8, zero := [.nilmap], elem := 0, es := 1, eb := 8, ez := [.int .i64 0], kz := .str [], eagg := false, fields := [] }
def ty137 : TI := { kind := 1, size := 1, bytes := 24, zero := [.nilslice], elem := 0, es := 2, eb := 16, ez := [.int .i64 0, .int .i64 0], kz := .nilptr, eagg := false, fields := [] }
def ty140 : TI := { kind := 2, size := 2, bytes := 16, zero := [.int .i64 0, .int .i64 0], elem := 2, es := 1, eb := 8, ez := [], kz := .nilptr, eagg := false, fields := [] }
def ty144 : TI := { kind := 1, size := 1, bytes := 24, zero := [.nilslice], elem := 0, es := 1, eb := 16, ez := [.str []], kz := .nilptr, eagg := false, fields := [] }
def ty158 : TI := { kind := 7, size := 1, bytes := 8, zero := [.nilptr], elem := 0, es := 0, eb := 0, ez := [], kz := .nilptr, eagg := false, fields := [] }
def ty160 : TI := { kind := 1, size := 1, bytes := 24, zero := [.nilslice], elem := 0, es := 1, eb := 24, ez := [.nilslice], kz := .nilptr, eagg := false, fields := [] }
def ty162 : TI := { kind := 2, size := 21, bytes := 384, zero := [.nilslice, .nilslice, .nilslice, .nilslice, .str [], .bool false, .nilslice, .int .i64 0, .nilslice, .nilslice, .nilslice, .nilslice, .int .i64 0, .int .i64 0, .nilslice, .nilslice, .nilmap, .nilslice, .nilslice, .nilchan, .nilchan], elem := 0, es := 0, eb := 0, ez := [], kz := .nilptr, eagg := false, fields := [(0, (4, true)), (4, (5, true)), (9, (1, false)), (10, (1, false)), (11, (1, false)), (12, (2, true)), (14, (1, false)), (15, (1, false)), (16, (1, false)), (17, (1, false)), (18, (1, false)), (19, (1, false)), (20, (1, false))] }
def ty163 : TI := { kind := 2, size := 21, bytes := 384, zero := [.nilslice, .nilslice, .nilslice, .nilslice, .str [], .bool false, .nilslice, .int .i64 0, .nilslice, .nilslice, .nilslice, .nilslice, .int .i64 0, .int .i64 0, .nilslice, .nilslice, .nilmap, .nilslice, .nilslice, .nilchan, .nilchan], elem := 0, es := 0, eb := 0, ez := [], kz := .nilptr, eagg := false, fields := [(0, (4, true)), (4, (5, true)), (9, (1, false)), (10, (1, false)), (11, (1, false)), (12, (2, true)), (14, (1, false)), (15, (1, false)), (16, (1, false)), (17, (1, false)), (18, (1, false)), (19, (1, false)), (20, (1, false))] }
def ty166 : TI := { kind := 1, size := 1, bytes := 24, zero := [.nilslice], elem := 0, es := 2, eb := 16, ez := [.int .i64 0, .int .i64 0], kz := .nilptr, eagg := false, fields := [] }
def ty167 : TI := { kind := 2, size := 2, bytes := 16, zero := [.int .i64 0, .int .i64 0], elem := 0, es := 0, eb := 0, ez := [], kz := .nilptr, eagg := true, fields := [(0, (1, false)), (1, (1, false))] }
def ty168 : TI := { kind := 2, size := 2, bytes := 16, zero := [.int .i64 0, .int .i64 0], elem := 0, es := 0, eb := 0, ez := [], kz := .nilptr, eagg := true, fields := [(0, (1, false)), (1, (1, false))] }
def ty184 : TI := { kind := 7, size := 1, bytes := 8, zero := [.nilptr], elem := 0, es := 0, eb := 0, ez := [], kz := .nilptr, eagg := false, fields := [] }
def ty186 : TI := { kind := 7, size := 1, bytes := 8, zero := [.nilptr], elem := 0, es := 0, eb := 0, ez := [], kz := .nilptr, eagg := false, fields := [] }
def ty188 : TI := { kind := 2, size := 8, bytes := 136, zero := [.str [], .bool false, .nilslice, .int .i64 0, .nilslice, .nilslice, .nilslice, .bool false], elem := 0, es := 0, eb := 0, ez := [], kz := .nilptr, eagg := false, fields := [(0, (5, true)), (5, (1, false)), (6, (1, false)), (7, (1, false))] }
def ty189 : TI := { kind := 2, size := 8, bytes := 136, zero := [.str [], .bool false, .nilslice, .int .i64 0, .nilslice, .nilslice, .nilslice, .bool false], elem := 0, es := 0, eb := 0, ez := [], kz := .nilptr, eagg := false, fields := [(0, (5, true)), (5, (1, false)), (6, (1, false)), (7, (1, false))] }
def ty203 : TI := { kind := 2, size := 2, bytes := 16, zero := [.int .i64 0, .int .i64 0], elem := 0, es := 0, eb := 0, ez := [], kz := .nilptr, eagg := true, fields := [(0, (1, false)), (1, (1, false))] }
def ty204 : TI := { kind := 2, size := 2, bytes := 16, zero := [.int .i64 0, .int .i64 0], elem := 0, es := 0, eb := 0, ez := [], kz := .nilptr, eagg := true, fields := [(0, (1, false)), (1, (1, false))] }
def ty214 : TI := { kind := 5, size := 1, bytes := 8, zero := [.int .i64 0], elem := 0, es := 0, eb := 0, ez := [], kz := .nilptr, eagg := false, fields := [] }
def ty221 : TI := { kind := 5, size := 1, bytes := 4, zero := [.int .u32 0], elem := 0, es := 0, eb := 0, ez := [], kz := .nilptr, eagg := false, fields := [] }
def ty224 : TI := { kind := 7, size := 1, bytes := 8, zero := [.nilptr], elem := 0, es := 0, eb := 0, ez := [], kz := .nilptr, eagg := false, fields := [] }
def ty225 : TI := { kind := 2, size := 8, bytes := 160, zero := [.nilslice, .nilslice, .nilslice, .nilslice, .nilslice, .int .i64 0, .nilslice, .int .i64 0], elem := 0, es := 0, eb := 0, ez := [], kz := .nilptr, eagg := false, fields := [(0, (1, false)), (1, (1, false)), (2, (1, false)), (3, (1, false)), (4, (1, false)), (5, (1, false)), (6, (1, false)), (7, (1, false))] }
def ty226 : TI := { kind := 2, size := 8, bytes := 160, zero := [.nilslice, .nilslice, .nilslice, .nilslice, .nilslice, .int .i64 0, .nilslice, .int .i64 0], elem := 0, es := 0, eb := 0, ez := [], kz := .nilptr, eagg := false, fields := [(0, (1, false)), (1, (1, false)), (2, (1, false)), (3, (1, false)), (4, (1, false)), (5, (1, false)), (6, (1, false)), (7, (1, false))] }
def ty229 : TI := { kind := 5, size := 1, bytes := 8, zero := [.int .u64 0], elem := 0, es := 0, eb := 0, ez := [], kz := .nilptr, eagg := false, fields := [] }
def ty233 : TI := { kind := 7, size := 1, bytes := 8, zero := [.nilptr], elem := 0, es := 0, eb := 0, ez := [], kz := .nilptr, eagg := false, fields := [] }
def ty237 : TI := { kind := 2, size := 2, bytes := 16, zero := [.int .i64 0, .int .i64 0], elem := 0, es := 0, eb := 0, ez := [], kz := .nilptr, eagg := true, fields := [(0, (1, false)), (1, (1, false))] }
def ty238 : TI := { kind := 2, size := 2, bytes := 16, zero := [.int .i64 0, .int .i64 0], elem := 0, es := 0, eb := 0, ez := [], kz := .nilptr, eagg := true, fields := [(0, (1, false)), (1, (1, false))] }
def ty239 : TI := { kind := 1, size := 1, bytes := 24, zero := [.nilslice], elem := 0, es := 2, eb := 16, ez := [.int .i64 0, .int .i64 0], kz := .nilptr, eagg := false, fields := [] }
def ty240 : TI := { kind := 7, size := 1, bytes := 8, zero := [.nilptr], elem := 0, es := 0, eb := 0, ez := [], kz := .nilptr, eagg := false, fields := [] }
def ty246 : TI := { kind := 7, size := 1, bytes := 8, zero := [.nilptr], elem := 0, es := 0, eb := 0, ez := [], kz := .nilptr, eagg := false, fields := [] }
def ty248 : TI := { kind := 2, size := 2, bytes := 16, zero := [.int .i64 0, .int .i64 0], elem := 2, es := 1, eb := 8, ez := [], kz := .nilptr, eagg := false, fields := [] }
def ty253 : TI := { kind := 2, size := 4, bytes := 40, zero := [.nilptr, .nilptr, .nilptr, .str []], elem := 0, es := 0, eb := 0, ez := [], kz := .nilptr, eagg := false, fields := [(0, (1, false)), (1, (1, false)), (2, (1, false)), (3, (1, false))] }
def ty254 : TI := { kind := 2, size := 4, bytes := 40, zero := [.nilptr, .nilptr, .nilptr, .str []], elem := 0, es := 0, eb := 0, ez := [], kz := .nilptr, eagg := false, fields := [(0, (1, false)), (1, (1, false)), (2, (1, false)), (3, (1, false))] }
def ty255 : TI := { kind := 2, size := 0, bytes := 0, zero := [], elem := 0, es := 1, eb := 8, ez := [], kz := .nilptr, eagg := false, fields := [] }
def ty259 : TI := { kind := 5, size := 1, bytes := 1, zero := [.int .u8 0], elem := 0, es := 0, eb := 0, ez := [], kz := .nilptr, eagg := false, fields := [] }
def ty260 : TI := { kind := 5, size := 1, bytes := 1, zero := [.int .u8 0], elem := 0, es := 0, eb := 0, ez := [], kz := .nilptr, eagg := false, fields := [] }
def ty262 : TI := { kind := 7, size := 1, bytes := 8, zero := [.nilptr], elem := 0, es := 0, eb := 0, ez := [], kz := .nilptr, eagg := false, fields := [] }
def ty263 : TI := { kind := 5, size := 1, bytes := 4, zero := [.int .i32 0], elem := 0, es := 0, eb := 0, ez := [], kz := .nilptr, eagg := false, fields := [] }
def ty264 : TI := { kind := 5, size := 1, bytes := 4, zero := [.int .i32 0], elem := 0, es := 0, eb := 0, ez := [], kz := .nilptr, eagg := false, fields := [] }
def ty265 : TI := { kind := 2, size := 11, bytes := 48, zero := [.int .u64 0, .int .u64 0, .int .u32 0, .int .u8 0, .int .u8 0, .int .u8 0, .int .u8 0, .nilfunc, .nilptr, .int .i32 0, .int .i32 0], elem := 0, es := 0, eb := 0, ez := [], kz := .nilptr, eagg := false, fields := [(0, (1, false)), (1, (1, false)), (2, (1, false)), (3, (1, false)), (4, (1, false)), (5, (1, false)), (6, (1, false)), (7, (1, false)), (8, (1, false)), (9, (1, false)), (10, (1, false))] }
def ty266 : TI := { kind := 2, size := 11, bytes := 48, zero := [.int .u64 0, .int .u64 0, .int .u32 0, .int .u8 0, .int .u8 0, .int .u8 0, .int .u8 0, .nilfunc, .nilptr, .int .i32 0, .int .i32 0], elem := 0, es := 0, eb := 0, ez := [], kz := .nilptr, eagg := false, fields := [(0, (1, false)), (1, (1, false)), (2, (1, false)), (3, (1, false)), (4, (1, false)), (5, (1, false)), (6, (1, false)), (7, (1, false)), (8, (1, false)), (9, (1, false)), (10, (1, false))] }
def tyT : Tr TI := .nd (.nd (.nd (.nd (.nd (.nd (.nd (.nd (.nd (.nil) (some ty255) (.nil)) (none) (.nil)) (none) (.nil)) (some ty31) (.nil)) (some ty15) (.nd (.nd (.nil) (some ty79) (.nil)) (none) (.nd (.nil) (none) (.nd (.nil) (some ty239) (.nil))))) (some ty7) (.nd (.nd (.nd (.nd (.nd (.nil) (some ty263) (.nil)) (none) (.nil)) (some ty71) (.nil)) (some ty39) (.nd (.nd (.nil) (some ty167) (.nil)) (none) (.nil))) (none) (.nd (.nil) (some ty55) (.nil)))) (some ty3) (.nd (.nd (.nd (.nd (.nd (.nd (.nil) (some ty259) (.nil)) (some ty131) (.nil)) (some ty67) (.nil)) (none) (.nd (.nd (.nil) (some ty163) (.nil)) (some ty99) (.nil))) (some ty19) (.nd (.nil) (some ty51) (.nil))) (some ty11) (.nd (.nd (.nd (.nil) (some ty75) (.nd (.nil) (some ty203) (.nil))) (some ty43) (.nd (.nil) (some ty107) (.nil))) (some ty27) (.nil)))) (none) (.nd (.nd (.nd (.nd (.nil) (some ty33) (.nd (.nil) (none) (.nd (.nil) (some ty225) (.nil)))) (some ty17) (.nil)) (some ty9) (.nd (.nd (.nd (.nd (.nd (.nil) (some ty265) (.nil)) (some ty137) (.nil)) (some ty73) (.nil)) (some ty41) (.nd (.nil) (none) (.nd (.nil) (some ty233) (.nil)))) (some ty25) (.nd (.nd (.nil) (some ty89) (.nil)) (some ty57) (.nd (.nil) (some ty121) (.nil))))) (some ty5) (.nd (.nd (.nd (.nil) (some ty37) (.nd (.nil) (none) (.nd (.nil) (some ty229) (.nil)))) (some ty21) (.nd (.nd (.nil) (some ty85) (.nil)) (some ty53) (.nd (.nil) (some ty117) (.nil)))) (some ty13) (.nd (.nd (.nil) (none) (.nd (.nil) (some ty109) (.nd (.nil) (some ty237) (.nil)))) (some ty29) (.nd (.nd (.nil) (some ty93) (.nd (.nil) (some ty221) (.nil))) (some ty61) (.nd (.nd (.nil) (some ty189) (.nil)) (some ty125) (.nd (.nil) (some ty253) (.nil)))))))) (none) (.nd (.nd (.nd (.nd (.nd (.nil) (some ty32) (.nd (.nd (.nil) (some ty160) (.nil)) (none) (.nd (.nil) (some ty224) (.nil)))) (some ty16) (.nd (.nd (.nd (.nil) (some ty144) (.nil)) (some ty80) (.nil)) (none) (.nd (.nil) (none) (.nd (.nil) (some ty240) (.nil))))) (some ty8) (.nd (.nd (.nd (.nd (.nd (.nil) (some ty264) (.nil)) (none) (.nil)) (some ty72) (.nil)) (some ty40) (.nd (.nd (.nil) (some ty168) (.nil)) (some ty104) (.nil))) (some ty24) (.nd (.nd (.nil) (some ty88) (.nil)) (none) (.nd (.nd (.nil) (some ty184) (.nil)) (none) (.nd (.nil) (some ty248) (.nil)))))) (some ty4) (.nd (.nd (.nd (.nd (.nd (.nd (.nil) (some ty260) (.nil)) (none) (.nil)) (none) (.nil)) (none) (.nil)) (none) (.nd (.nil) (some ty52) (.nd (.nil) (some ty116) (.nil)))) (some ty12) (.nd (.nd (.nd (.nd (.nil) (some ty140) (.nil)) (some ty76) (.nd (.nil) (some ty204) (.nil))) (none) (.nil)) (some ty28) (.nd (.nd (.nil) (some ty92) (.nil)) (some ty60) (.nd (.nd (.nil) (some ty188) (.nil)) (none) (.nil)))))) (some ty2) (.nd (.nd (.nd (.nd (.nil) (some ty34) (.nd (.nd (.nil) (some ty162) (.nil)) (some ty98) (.nd (.nil) (some ty226) (.nil)))) (some ty18) (.nil)) (some ty10) (.nd (.nd (.nd (.nd (.nd (.nil) (some ty266) (.nil)) (none) (.nil)) (some ty74) (.nil)) (some ty42) (.nd (.nil) (some ty106) (.nil))) (some ty26) (.nd (.nd (.nil) (some ty90) (.nil)) (some ty58) (.nd (.nd (.nil) (some ty186) (.nil)) (some ty122) (.nil))))) (some ty6) (.nd (.nd (.nd (.nd (.nd (.nd (.nil) (some ty262) (.nil)) (none) (.nil)) (some ty70) (.nil)) (some ty38) (.nd (.nd (.nil) (some ty166) (.nil)) (none) (.nil))) (some ty22) (.nd (.nd (.nil) (none) (.nd (.nil) (some ty214) (.nil))) (some ty54) (.nd (.nil) (none) (.nd (.nil) (some ty246) (.nil))))) (some ty14) (.nd (.nd (.nd (.nil) (some ty78) (.nil)) (none) (.nd (.nil) (some ty110) (.nd (.nil) (some ty238) (.nil)))) (some ty30) (.nd (.nd (.nd (.nil) (some ty158) (.nil)) (none) (.nil)) (none) (.nd (.nil) (none) (.nd (.nil) (some ty254) (.nil))))))))
theorem tyOk : AllT (fun t ti => TyOK Tryz.prog t ti) tyT id := (AllT.of_bool (f := tyB Tryz.prog) (by kernel_rfl)).mono fun _ _ => tyB_ok
noncomputable def fn2 : Fn := fnOf Tryz.f2 []
theorem fb2 : FnOK Tryz.prog 2 fn2 := fn_ok Tryz.func2 (by kernel_rfl)
noncomputable def fn3 : Fn := fnOf Tryz.f3 []
theorem fb3 : FnOK Tryz.prog 3 fn3 := fn_ok Tryz.func3 (by kernel_rfl)
noncomputable def fn4 : Fn := fnOf Tryz.f4 [(13, [(1, 3), (5, 5), (1, 5), (8, 8), (1, 8), (1, 10)])]
theorem fb4 : FnOK Tryz.prog 4 fn4 := fn_ok Tryz.func4 (by kernel_rfl)
noncomputable def fn5 : Fn := fnOf Tryz.f5 []
theorem fb5 : FnOK Tryz.prog 5 fn5 := fn_ok Tryz.func5 (by kernel_rfl)
noncomputable def fn6 : Fn := fnOf Tryz.f6 []
theorem fb6 : FnOK Tryz.prog 6 fn6 := fn_ok Tryz.func6 (by kernel_rfl)
noncomputable def fn7 : Fn := fnOf Tryz.f7 [(5, [(2, 1)]), (21, [(3, 12), (5, 12), (7, 12), (9, 12), (11, 12)]), (30, [(1, 4)])]
theorem fb7 : FnOK Tryz.prog 7 fn7 := fn_ok Tryz.func7 (by kernel_rfl)
noncomputable def fn8 : Fn := fnOf Tryz.f8 []
theorem fb8 : FnOK Tryz.prog 8 fn8 := fn_ok Tryz.func8 (by kernel_rfl)
noncomputable def fn9 : Fn := fnOf Tryz.f9 []
theorem fb9 : FnOK Tryz.prog 9 fn9 := fn_ok Tryz.func9 (by kernel_rfl)
noncomputable def fn10 : Fn := fnOf Tryz.f10 [(4, [(50, 51)])]
theorem fb10 : FnOK Tryz.prog 10 fn10 := fn_ok Tryz.func10 (by kernel_rfl)
noncomputable def fn11 : Fn := fnOf Tryz.f11 []
theorem fb11 : FnOK Tryz.prog 11 fn11 := fn_ok Tryz.func11 (by kernel_rfl)
noncomputable def fn12 : Fn := fnOf Tryz.f12 []
theorem fb12 : FnOK Tryz.prog 12 fn12 := fn_ok Tryz.func12 (by kernel_rfl)
noncomputable def fn14 : Fn := fnOf Tryz.f14 []
theorem fb14 : FnOK Tryz.prog 14 fn14 := fn_ok Tryz.func14 (by kernel_rfl)
noncomputable def fn15 : Fn := fnOf Tryz.f15 []
theorem fb15 : FnOK Tryz.prog 15 fn15 := fn_ok Tryz.func15 (by kernel_rfl)
noncomputable def fn16 : Fn := fnOf Tryz.f16 []
theorem fb16 : FnOK Tryz.prog 16 fn16 := fn_ok Tryz.func16 (by kernel_rfl)
noncomputable def fn17 : Fn := fnOf Tryz.f17 []
theorem fb17 : FnOK Tryz.prog 17 fn17 := fn_ok Tryz.func17 (by kernel_rfl)
noncomputable def fn18 : Fn := fnOf Tryz.f18 []
theorem fb18 : FnOK Tryz.prog 18 fn18 := fn_ok Tryz.func18 (by kernel_rfl)
noncomputable def fn19 : Fn := fnOf Tryz.f19 []
theorem fb19 : FnOK Tryz.prog 19 fn19 := fn_ok Tryz.func19 (by kernel_rfl)
noncomputable def fn20 : Fn := fnOf Tryz.f20 []
theorem fb20 : FnOK Tryz.prog 20 fn20 := fn_ok Tryz.func20 (by kernel_rfl)
noncomputable def fn21 : Fn := fnOf Tryz.f21 []
theorem fb21 : FnOK Tryz.prog 21 fn21 := fn_ok Tryz.func21 (by kernel_rfl)
noncomputable def fn22 : Fn := fnOf Tryz.f22 [(1, [(0, 4)]), (31, [(4, 6)])]
theorem fb22 : FnOK Tryz.prog 22 fn22 := fn_ok Tryz.func22 (by kernel_rfl)
noncomputable def fn23 : Fn := fnOf Tryz.f23 [(23, [(1, 3), (1, 4)])]
theorem fb23 : FnOK Tryz.prog 23 fn23 := fn_ok Tryz.func23 (by kernel_rfl)
noncomputable def fn24 : Fn := fnOf Tryz.f24 [(4, [(3, 10), (5, 10), (7, 10), (9, 10)]), (7, [(3, 12), (5, 12), (7, 12), (9, 12), (11, 12)])]
theorem fb24 : FnOK Tryz.prog 24 fn24 := fn_ok Tryz.func24 (by kernel_rfl)
noncomputable def fn25 : Fn := fnOf Tryz.f25 []
theorem fb25 : FnOK Tryz.prog 25 fn25 := fn_ok Tryz.func25 (by kernel_rfl)
noncomputable def fn26 : Fn := fnOf Tryz.f26 []
theorem fb26 : FnOK Tryz.prog 26 fn26 := fn_ok Tryz.func26 (by kernel_rfl)
noncomputable def fn27 : Fn := fnOf Tryz.f27 []
theorem fb27 : FnOK Tryz.prog 27 fn27 := fn_ok Tryz.func27 (by kernel_rfl)
noncomputable def fn28 : Fn := fnOf Tryz.f28 []
theorem fb28 : FnOK Tryz.prog 28 fn28 := fn_ok Tryz.func28 (by kernel_rfl)
noncomputable def fn29 : Fn := fnOf Tryz.f29 [(10, [(0, 11), (13, 13), (0, 13), (2, 13), (5, 13), (8, 13), (10, 13)]), (11, [(1, 11)])]
theorem fb29 : FnOK Tryz.prog 29 fn29 := fn_ok Tryz.func29 (by kernel_rfl)
noncomputable def fn30 : Fn := fnOf Tryz.f30 []
theorem fb30 : FnOK Tryz.prog 30 fn30 := fn_ok Tryz.func30 (by kernel_rfl)
noncomputable def fn31 : Fn := fnOf Tryz.f31 []
theorem fb31 : FnOK Tryz.prog 31 fn31 := fn_ok Tryz.func31 (by kernel_rfl)
noncomputable def fn32 : Fn := fnOf Tryz.f32 []
theorem fb32 : FnOK Tryz.prog 32 fn32 := fn_ok Tryz.func32 (by kernel_rfl)
noncomputable def fn33 : Fn := fnOf Tryz.f33 []
theorem fb33 : FnOK Tryz.prog 33 fn33 := fn_ok Tryz.func33 (by kernel_rfl)
noncomputable def fn34 : Fn := fnOf Tryz.f34 []
theorem fb34 : FnOK Tryz.prog 34 fn34 := fn_ok Tryz.func34 (by kernel_rfl)
noncomputable def fn35 : Fn := fnOf Tryz.f35 []
theorem fb35 : FnOK Tryz.prog 35 fn35 := fn_ok Tryz.func35 (by kernel_rfl)
noncomputable def fn36 : Fn := fnOf Tryz.f36 []
theorem fb36 : FnOK Tryz.prog 36 fn36 := fn_ok Tryz.func36 (by kernel_rfl)
noncomputable def fn37 : Fn := fnOf Tryz.f37 []
theorem fb37 : FnOK Tryz.prog 37 fn37 := fn_ok Tryz.func37 (by kernel_rfl)
noncomputable def fn38 : Fn := fnOf Tryz.f38 []
theorem fb38 : FnOK Tryz.prog 38 fn38 := fn_ok Tryz.func38 (by kernel_rfl)
noncomputable def fn39 : Fn := fnOf Tryz.f39 []
theorem fb39 : FnOK Tryz.prog 39 fn39 := fn_ok Tryz.func39 (by kernel_rfl)
noncomputable def fn40 : Fn := fnOf Tryz.f40 []
theorem fb40 : FnOK Tryz.prog 40 fn40 := fn_ok Tryz.func40 (by kernel_rfl)
noncomputable def fn41 : Fn := fnOf Tryz.f41 []
theorem fb41 : FnOK Tryz.prog 41 fn41 := fn_ok Tryz.func41 (by kernel_rfl)
noncomputable def fn42 : Fn := fnOf Tryz.f42 []
theorem fb42 : FnOK Tryz.prog 42 fn42 := fn_ok Tryz.func42 (by kernel_rfl)
noncomputable def fn43 : Fn := fnOf Tryz.f43 [(20, [(2, 1)])]
theorem fb43 : FnOK Tryz.prog 43 fn43 := fn_ok Tryz.func43 (by kernel_rfl)
noncomputable def fn44 : Fn := fnOf Tryz.f44 []
theorem fb44 : FnOK Tryz.prog 44 fn44 := fn_ok Tryz.func44 (by kernel_rfl)
noncomputable def fn45 : Fn := fnOf Tryz.f45 []
theorem fb45 : FnOK Tryz.prog 45 fn45 := fn_ok Tryz.func45 (by kernel_rfl)
noncomputable def fn46 : Fn := fnOf Tryz.f46 [(9, [(5, 1)])]
theorem fb46 : FnOK Tryz.prog 46 fn46 := fn_ok Tryz.func46 (by kernel_rfl)
noncomputable def fn47 : Fn := fnOf Tryz.f47 []
theorem fb47 : FnOK Tryz.prog 47 fn47 := fn_ok Tryz.func47 (by kernel_rfl)
noncomputable def fn48 : Fn := fnOf Tryz.f48 []
theorem fb48 : FnOK Tryz.prog 48 fn48 := fn_ok Tryz.func48 (by kernel_rfl)
noncomputable def fn49 : Fn := fnOf Tryz.f49 []
theorem fb49 : FnOK Tryz.prog 49 fn49 := fn_ok Tryz.func49 (by kernel_rfl)
noncomputable def fn50 : Fn := fnOf Tryz.f50 []
theorem fb50 : FnOK Tryz.prog 50 fn50 := fn_ok Tryz.func50 (by kernel_rfl)
noncomputable def fn51 : Fn := fnOf Tryz.f51 []
theorem fb51 : FnOK Tryz.prog 51 fn51 := fn_ok Tryz.func51 (by kernel_rfl)
noncomputable def fn52 : Fn := fnOf Tryz.f52 [(10, [(5, 2), (6, 2)])]
theorem fb52 : FnOK Tryz.prog 52 fn52 := fn_ok Tryz.func52 (by kernel_rfl)
noncomputable def fn53 : Fn := fnOf Tryz.f53 []
theorem fb53 : FnOK Tryz.prog 53 fn53 := fn_ok Tryz.func53 (by kernel_rfl)
noncomputable def fn54 : Fn := fnOf Tryz.f54 []
theorem fb54 : FnOK Tryz.prog 54 fn54 := fn_ok Tryz.func54 (by kernel_rfl)
noncomputable def fn55 : Fn := fnOf Tryz.f55 []
theorem fb55 : FnOK Tryz.prog 55 fn55 := fn_ok Tryz.func55 (by kernel_rfl)
noncomputable def fn56 : Fn := fnOf Tryz.f56 []
theorem fb56 : FnOK Tryz.prog 56 fn56 := fn_ok Tryz.func56 (by kernel_rfl)
noncomputable def fn57 : Fn := fnOf Tryz.f57 []
theorem fb57 : FnOK Tryz.prog 57 fn57 := fn_ok Tryz.func57 (by kernel_rfl)
noncomputable def fn58 : Fn := fnOf Tryz.f58 []
theorem fb58 : FnOK Tryz.prog 58 fn58 := fn_ok Tryz.func58 (by kernel_rfl)
noncomputable def fn59 : Fn := fnOf Tryz.f59 []
theorem fb59 : FnOK Tryz.prog 59 fn59 := fn_ok Tryz.func59 (by kernel_rfl)
noncomputable def fn60 : Fn := fnOf Tryz.f60 []
theorem fb60 : FnOK Tryz.prog 60 fn60 := fn_ok Tryz.func60 (by kernel_rfl)
noncomputable def fn61 : Fn := fnOf Tryz.f61 [(17, [(1, 6), (1, 7)])]
theorem fb61 : FnOK Tryz.prog 61 fn61 := fn_ok Tryz.func61 (by kernel_rfl)
noncomputable def fn62 : Fn := fnOf Tryz.f62 []
theorem fb62 : FnOK Tryz.prog 62 fn62 := fn_ok Tryz.func62 (by kernel_rfl)
noncomputable def fn63 : Fn := fnOf Tryz.f63 []
theorem fb63 : FnOK Tryz.prog 63 fn63 := fn_ok Tryz.func63 (by kernel_rfl)
noncomputable def fn64 : Fn := fnOf Tryz.f64 [(5, [(0, 4), (1, 4), (6, 6), (0, 6), (1, 6), (3, 6), (8, 8), (0, 8), (1, 8), (3, 8), (9, 9), (0, 9), (1, 9), (3, 9)]), (12, [(3, 6)]), (20, [(3, 7)]), (27, [(3, 15), (8, 15), (11, 15), (3, 16)]), (36, [(5, 5), (3, 5), (11, 11), (3, 11), (9, 11)])]
theorem fb64 : FnOK Tryz.prog 64 fn64 := fn_ok Tryz.func64 (by kernel_rfl)
noncomputable def fn65 : Fn := fnOf Tryz.f65 [(28, [(1, 8)])]
theorem fb65 : FnOK Tryz.prog 65 fn65 := fn_ok Tryz.func65 (by kernel_rfl)
noncomputable def fn66 : Fn := fnOf Tryz.f66 []
theorem fb66 : FnOK Tryz.prog 66 fn66 := fn_ok Tryz.func66 (by kernel_rfl)
noncomputable def fn67 : Fn := fnOf Tryz.f67 []
theorem fb67 : FnOK Tryz.prog 67 fn67 := fn_ok Tryz.func67 (by kernel_rfl)
noncomputable def fn68 : Fn := fnOf Tryz.f68 [(0, [(19, 19), (3, 19), (9, 19), (12, 19), (17, 19)])]
theorem fb68 : FnOK Tryz.prog 68 fn68 := fn_ok Tryz.func68 (by kernel_rfl)
noncomputable def fn69 : Fn := fnOf Tryz.f69 []
theorem fb69 : FnOK Tryz.prog 69 fn69 := fn_ok Tryz.func69 (by kernel_rfl)
noncomputable def fn70 : Fn := fnOf Tryz.f70 []
theorem fb70 : FnOK Tryz.prog 70 fn70 := fn_ok Tryz.func70 (by kernel_rfl)
noncomputable def fn71 : Fn := fnOf Tryz.f71 []
theorem fb71 : FnOK Tryz.prog 71 fn71 := fn_ok Tryz.func71 (by kernel_rfl)
noncomputable def fn72 : Fn := fnOf Tryz.f72 []
theorem fb72 : FnOK Tryz.prog 72 fn72 := fn_ok Tryz.func72 (by kernel_rfl)
noncomputable def fn73 : Fn := fnOf Tryz.f73 []
theorem fb73 : FnOK Tryz.prog 73 fn73 := fn_ok Tryz.func73 (by kernel_rfl)
noncomputable def fn74 : Fn := fnOf Tryz.f74 []
theorem fb74 : FnOK Tryz.prog 74 fn74 := fn_ok Tryz.func74 (by kernel_rfl)
noncomputable def fn75 : Fn := fnOf Tryz.f75 []
theorem fb75 : FnOK Tryz.prog 75 fn75 := fn_ok Tryz.func75 (by kernel_rfl)
noncomputable def fn76 : Fn := fnOf Tryz.f76 []
theorem fb76 : FnOK Tryz.prog 76 fn76 := fn_ok Tryz.func76 (by kernel_rfl)
noncomputable def fn77 : Fn := fnOf Tryz.f77 []
theorem fb77 : FnOK Tryz.prog 77 fn77 := fn_ok Tryz.func77 (by kernel_rfl)
noncomputable def fn78 : Fn := fnOf Tryz.f78 [(9, [(4, 13), (9, 13), (11, 13), (4, 14)])]
theorem fb78 : FnOK Tryz.prog 78 fn78 := fn_ok Tryz.func78 (by kernel_rfl)
noncomputable def fn79 : Fn := fnOf Tryz.f79 []
theorem fb79 : FnOK Tryz.prog 79 fn79 := fn_ok Tryz.func79 (by kernel_rfl)
noncomputable def fn80 : Fn := fnOf Tryz.f80 []
theorem fb80 : FnOK Tryz.prog 80 fn80 := fn_ok Tryz.func80 (by kernel_rfl)
noncomputable def fn81 : Fn := fnOf Tryz.f81 []
theorem fb81 : FnOK Tryz.prog 81 fn81 := fn_ok Tryz.func81 (by kernel_rfl)
noncomputable def fn82 : Fn := fnOf Tryz.f82 []
theorem fb82 : FnOK Tryz.prog 82 fn82 := fn_ok Tryz.func82 (by kernel_rfl)
noncomputable def fn83 : Fn := fnOf Tryz.f83 []
theorem fb83 : FnOK Tryz.prog 83 fn83 := fn_ok Tryz.func83 (by kernel_rfl)
noncomputable def fn84 : Fn := fnOf Tryz.f84 [(2, [(0, 6), (3, 6), (4, 6)]), (4, [(4, 2)]), (5, [(4, 2)])]
theorem fb84 : FnOK Tryz.prog 84 fn84 := fn_ok Tryz.func84 (by kernel_rfl)
noncomputable def fn85 : Fn := fnOf Tryz.f85 []
theorem fb85 : FnOK Tryz.prog 85 fn85 := fn_ok Tryz.func85 (by kernel_rfl)
noncomputable def fn86 : Fn := fnOf Tryz.f86 []
theorem fb86 : FnOK Tryz.prog 86 fn86 := fn_ok Tryz.func86 (by kernel_rfl)
noncomputable def fn87 : Fn := fnOf Tryz.f87 []
theorem fb87 : FnOK Tryz.prog 87 fn87 := fn_ok Tryz.func87 (by kernel_rfl)
noncomputable def fn88 : Fn := fnOf Tryz.f88 [(4, [(4, 6), (5, 6)])]
theorem fb88 : FnOK Tryz.prog 88 fn88 := fn_ok Tryz.func88 (by kernel_rfl)
noncomputable def fn89 : Fn := fnOf Tryz.f89 []
theorem fb89 : FnOK Tryz.prog 89 fn89 := fn_ok Tryz.func89 (by kernel_rfl)
noncomputable def fn90 : Fn := fnOf Tryz.f90 []
theorem fb90 : FnOK Tryz.prog 90 fn90 := fn_ok Tryz.func90 (by kernel_rfl)
noncomputable def fn91 : Fn := fnOf Tryz.f91 []
theorem fb91 : FnOK Tryz.prog 91 fn91 := fn_ok Tryz.func91 (by kernel_rfl)
noncomputable def fn92 : Fn := fnOf Tryz.f92 []
theorem fb92 : FnOK Tryz.prog 92 fn92 := fn_ok Tryz.func92 (by kernel_rfl)
noncomputable def fn93 : Fn := fnOf Tryz.f93 []
theorem fb93 : FnOK Tryz.prog 93 fn93 := fn_ok Tryz.func93 (by kernel_rfl)
noncomputable def fn94 : Fn := fnOf Tryz.f94 []
theorem fb94 : FnOK Tryz.prog 94 fn94 := fn_ok Tryz.func94 (by kernel_rfl)
noncomputable def fn95 : Fn := fnOf Tryz.f95 []
theorem fb95 : FnOK Tryz.prog 95 fn95 := fn_ok Tryz.func95 (by kernel_rfl)
noncomputable def fn96 : Fn := fnOf Tryz.f96 []
theorem fb96 : FnOK Tryz.prog 96 fn96 := fn_ok Tryz.func96 (by kernel_rfl)
noncomputable def fn97 : Fn := fnOf Tryz.f97 []
theorem fb97 : FnOK Tryz.prog 97 fn97 := fn_ok Tryz.func97 (by kernel_rfl)
noncomputable def fn98 : Fn := fnOf Tryz.f98 []
theorem fb98 : FnOK Tryz.prog 98 fn98 := fn_ok Tryz.func98 (by kernel_rfl)
noncomputable def fn99 : Fn := fnOf Tryz.f99 []
theorem fb99 : FnOK Tryz.prog 99 fn99 := fn_ok Tryz.func99 (by kernel_rfl)
noncomputable def fn100 : Fn := fnOf Tryz.f100 []
theorem fb100 : FnOK Tryz.prog 100 fn100 := fn_ok Tryz.func100 (by kernel_rfl)
noncomputable def fn101 : Fn := fnOf Tryz.f101 []
theorem fb101 : FnOK Tryz.prog 101 fn101 := fn_ok Tryz.func101 (by kernel_rfl)
noncomputable def fn102 : Fn := fnOf Tryz.f102 []
theorem fb102 : FnOK Tryz.prog 102 fn102 := fn_ok Tryz.func102 (by kernel_rfl)
noncomputable def fn103 : Fn := fnOf Tryz.f103 []
theorem fb103 : FnOK Tryz.prog 103 fn103 := fn_ok Tryz.func103 (by kernel_rfl)
noncomputable def fn104 : Fn := fnOf Tryz.f104 []
theorem fb104 : FnOK Tryz.prog 104 fn104 := fn_ok Tryz.func104 (by kernel_rfl)
noncomputable def fn105 : Fn := fnOf Tryz.f105 []
theorem fb105 : FnOK Tryz.prog 105 fn105 := fn_ok Tryz.func105 (by kernel_rfl)
noncomputable def fn106 : Fn := fnOf Tryz.f106 []
theorem fb106 : FnOK Tryz.prog 106 fn106 := fn_ok Tryz.func106 (by kernel_rfl)
noncomputable def fn107 : Fn := fnOf Tryz.f107 []
theorem fb107 : FnOK Tryz.prog 107 fn107 := fn_ok Tryz.func107 (by kernel_rfl)
noncomputable def fn108 : Fn := fnOf Tryz.f108 []
theorem fb108 : FnOK Tryz.prog 108 fn108 := fn_ok Tryz.func108 (by kernel_rfl)
noncomputable def fn109 : Fn := fnOf Tryz.f109 [(4, [(1, 13), (4, 13), (8, 13), (11, 13), (1, 14)])]
theorem fb109 : FnOK Tryz.prog 109 fn109 := fn_ok Tryz.func109 (by kernel_rfl)
noncomputable def fn110 : Fn := fnOf Tryz.f110 []
theorem fb110 : FnOK Tryz.prog 110 fn110 := fn_ok Tryz.func110 (by kernel_rfl)
noncomputable def fn111 : Fn := fnOf Tryz.f111 []
theorem fb111 : FnOK Tryz.prog 111 fn111 := fn_ok Tryz.func111 (by kernel_rfl)
noncomputable def fn112 : Fn := fnOf Tryz.f112 []
theorem fb112 : FnOK Tryz.prog 112 fn112 := fn_ok Tryz.func112 (by kernel_rfl)
noncomputable def fn113 : Fn := fnOf Tryz.f113 [(4, [(1, 16), (5, 16), (7, 16), (11, 16), (12, 16), (15, 16)])]
theorem fb113 : FnOK Tryz.prog 113 fn113 := fn_ok Tryz.func113 (by kernel_rfl)
noncomputable def fn114 : Fn := fnOf Tryz.f114 []
theorem fb114 : FnOK Tryz.prog 114 fn114 := fn_ok Tryz.func114 (by kernel_rfl)
noncomputable def fn115 : Fn := fnOf Tryz.f115 []
theorem fb115 : FnOK Tryz.prog 115 fn115 := fn_ok Tryz.func115 (by kernel_rfl)
noncomputable def fn116 : Fn := fnOf Tryz.f116 []
theorem fb116 : FnOK Tryz.prog 116 fn116 := fn_ok Tryz.func116 (by kernel_rfl)
noncomputable def fn117 : Fn := fnOf Tryz.f117 []
theorem fb117 : FnOK Tryz.prog 117 fn117 := fn_ok Tryz.func117 (by kernel_rfl)
noncomputable def fn118 : Fn := fnOf Tryz.f118 []
theorem fb118 : FnOK Tryz.prog 118 fn118 := fn_ok Tryz.func118 (by kernel_rfl)
noncomputable def fn119 : Fn := fnOf Tryz.f119 [(6, [(17, 17), (4, 17), (7, 17), (10, 17), (12, 17), (15, 17)])]
theorem fb119 : FnOK Tryz.prog 119 fn119 := fn_ok Tryz.func119 (by kernel_rfl)
noncomputable def fn120 : Fn := fnOf Tryz.f120 []
theorem fb120 : FnOK Tryz.prog 120 fn120 := fn_ok Tryz.func120 (by kernel_rfl)
noncomputable def fn121 : Fn := fnOf Tryz.f121 []
theorem fb121 : FnOK Tryz.prog 121 fn121 := fn_ok Tryz.func121 (by kernel_rfl)
noncomputable def fn122 : Fn := fnOf Tryz.f122 []
theorem fb122 : FnOK Tryz.prog 122 fn122 := fn_ok Tryz.func122 (by kernel_rfl)
noncomputable def fn123 : Fn := fnOf Tryz.f123 []
theorem fb123 : FnOK Tryz.prog 123 fn123 := fn_ok Tryz.func123 (by kernel_rfl)
noncomputable def fn124 : Fn := fnOf Tryz.f124 [(6, [(0, 6), (1, 6)])]
theorem fb124 : FnOK Tryz.prog 124 fn124 := fn_ok Tryz.func124 (by kernel_rfl)
noncomputable def fn125 : Fn := fnOf Tryz.f125 []
theorem fb125 : FnOK Tryz.prog 125 fn125 := fn_ok Tryz.func125 (by kernel_rfl)
noncomputable def fn126 : Fn := fnOf Tryz.f126 []
theorem fb126 : FnOK Tryz.prog 126 fn126 := fn_ok Tryz.func126 (by kernel_rfl)
noncomputable def fn127 : Fn := fnOf Tryz.f127 []
theorem fb127 : FnOK Tryz.prog 127 fn127 := fn_ok Tryz.func127 (by kernel_rfl)
noncomputable def fn128 : Fn := fnOf Tryz.f128 []
theorem fb128 : FnOK Tryz.prog 128 fn128 := fn_ok Tryz.func128 (by kernel_rfl)
noncomputable def fn129 : Fn := fnOf Tryz.f129 []
theorem fb129 : FnOK Tryz.prog 129 fn129 := fn_ok Tryz.func129 (by kernel_rfl)
noncomputable def fn130 : Fn := fnOf Tryz.f130 []
theorem fb130 : FnOK Tryz.prog 130 fn130 := fn_ok Tryz.func130 (by kernel_rfl)
noncomputable def fn131 : Fn := fnOf Tryz.f131 []
theorem fb131 : FnOK Tryz.prog 131 fn131 := fn_ok Tryz.func131 (by kernel_rfl)
noncomputable def fn132 : Fn := fnOf Tryz.f132 []
theorem fb132 : FnOK Tryz.prog 132 fn132 := fn_ok Tryz.func132 (by kernel_rfl)
noncomputable def fn133 : Fn := fnOf Tryz.f133 []
theorem fb133 : FnOK Tryz.prog 133 fn133 := fn_ok Tryz.func133 (by kernel_rfl)
noncomputable def fn134 : Fn := fnOf Tryz.f134 []
theorem fb134 : FnOK Tryz.prog 134 fn134 := fn_ok Tryz.func134 (by kernel_rfl)
noncomputable def fn135 : Fn := fnOf Tryz.f135 []
theorem fb135 : FnOK Tryz.prog 135 fn135 := fn_ok Tryz.func135 (by kernel_rfl)
noncomputable def fn136 : Fn := fnOf Tryz.f136 [(5, [(3, 6)]), (7, [(3, 6)])]
theorem fb136 : FnOK Tryz.prog 136 fn136 := fn_ok Tryz.func136 (by kernel_rfl)
noncomputable def fn137 : Fn := fnOf Tryz.f137 []
theorem fb137 : FnOK Tryz.prog 137 fn137 := fn_ok Tryz.func137 (by kernel_rfl)
noncomputable def fn138 : Fn := fnOf Tryz.f138 []
theorem fb138 : FnOK Tryz.prog 138 fn138 := fn_ok Tryz.func138 (by kernel_rfl)
noncomputable def fn139 : Fn := fnOf Tryz.f139 []
theorem fb139 : FnOK Tryz.prog 139 fn139 := fn_ok Tryz.func139 (by kernel_rfl)
noncomputable def fn140 : Fn := fnOf Tryz.f140 [(1, [(0, 4)])]
theorem fb140 : FnOK Tryz.prog 140 fn140 := fn_ok Tryz.func140 (by kernel_rfl)
noncomputable def fn141 : Fn := fnOf Tryz.f141 []
theorem fb141 : FnOK Tryz.prog 141 fn141 := fn_ok Tryz.func141 (by kernel_rfl)
noncomputable def fn142 : Fn := fnOf Tryz.f142 []
theorem fb142 : FnOK Tryz.prog 142 fn142 := fn_ok Tryz.func142 (by kernel_rfl)
noncomputable def fn143 : Fn := fnOf Tryz.f143 []
theorem fb143 : FnOK Tryz.prog 143 fn143 := fn_ok Tryz.func143 (by kernel_rfl)
noncomputable def fn144 : Fn := fnOf Tryz.f144 []
theorem fb144 : FnOK Tryz.prog 144 fn144 := fn_ok Tryz.func144 (by kernel_rfl)
noncomputable def fn145 : Fn := fnOf Tryz.f145 []
theorem fb145 : FnOK Tryz.prog 145 fn145 := fn_ok Tryz.func145 (by kernel_rfl)
noncomputable def fn146 : Fn := fnOf Tryz.f146 []
theorem fb146 : FnOK Tryz.prog 146 fn146 := fn_ok Tryz.func146 (by kernel_rfl)
noncomputable def fn147 : Fn := fnOf Tryz.f147 []
theorem fb147 : FnOK Tryz.prog 147 fn147 := fn_ok Tryz.func147 (by kernel_rfl)
noncomputable def fn148 : Fn := fnOf Tryz.f148 [(2, [(3, 5)])]
theorem fb148 : FnOK Tryz.prog 148 fn148 := fn_ok Tryz.func148 (by kernel_rfl)
noncomputable def fn150 : Fn := fnOf Tryz.f150 []
theorem fb150 : FnOK Tryz.prog 150 fn150 := fn_ok Tryz.func150 (by kernel_rfl)
noncomputable def fn151 : Fn := fnOf Tryz.f151 []
theorem fb151 : FnOK Tryz.prog 151 fn151 := fn_ok Tryz.func151 (by kernel_rfl)
noncomputable def fn152 : Fn := fnOf Tryz.f152 []
theorem fb152 : FnOK Tryz.prog 152 fn152 := fn_ok Tryz.func152 (by kernel_rfl)
noncomputable def fn153 : Fn := fnOf Tryz.f153 []
theorem fb153 : FnOK Tryz.prog 153 fn153 := fn_ok Tryz.func153 (by kernel_rfl)
noncomputable def fn154 : Fn := fnOf Tryz.f154 []
theorem fb154 : FnOK Tryz.prog 154 fn154 := fn_ok Tryz.func154 (by kernel_rfl)
noncomputable def fn155 : Fn := fnOf Tryz.f155 [(5, [(3, 10), (5, 10), (7, 10), (9, 10)])]
theorem fb155 : FnOK Tryz.prog 155 fn155 := fn_ok Tryz.func155 (by kernel_rfl)
noncomputable def fn156 : Fn := fnOf Tryz.f156 []
theorem fb156 : FnOK Tryz.prog 156 fn156 := fn_ok Tryz.func156 (by kernel_rfl)
noncomputable def fn157 : Fn := fnOf Tryz.f157 []
theorem fb157 : FnOK Tryz.prog 157 fn157 := fn_ok Tryz.func157 (by kernel_rfl)
noncomputable def fn158 : Fn := fnOf Tryz.f158 []
theorem fb158 : FnOK Tryz.prog 158 fn158 := fn_ok Tryz.func158 (by kernel_rfl)
noncomputable def fn159 : Fn := fnOf Tryz.f159 []
theorem fb159 : FnOK Tryz.prog 159 fn159 := fn_ok Tryz.func159 (by kernel_rfl)
noncomputable def fn160 : Fn := fnOf Tryz.f160 [(1, [(0, 9), (1, 9), (2, 9), (3, 9), (5, 9), (0, 10), (1, 10)])]
theorem fb160 : FnOK Tryz.prog 160 fn160 := fn_ok Tryz.func160 (by kernel_rfl)
noncomputable def fn161 : Fn := fnOf Tryz.f161 [(2, [(2, 2), (4, 4), (6, 6), (8, 8)])]
theorem fb161 : FnOK Tryz.prog 161 fn161 := fn_ok Tryz.func161 (by kernel_rfl)
noncomputable def fn162 : Fn := fnOf Tryz.f162 []
theorem fb162 : FnOK Tryz.prog 162 fn162 := fn_ok Tryz.func162 (by kernel_rfl)
noncomputable def fn163 : Fn := fnOf Tryz.f163 []
theorem fb163 : FnOK Tryz.prog 163 fn163 := fn_ok Tryz.func163 (by kernel_rfl)
noncomputable def fn164 : Fn := fnOf Tryz.f164 []
theorem fb164 : FnOK Tryz.prog 164 fn164 := fn_ok Tryz.func164 (by kernel_rfl)
noncomputable def fn165 : Fn := fnOf Tryz.f165 []
theorem fb165 : FnOK Tryz.prog 165 fn165 := fn_ok Tryz.func165 (by kernel_rfl)
noncomputable def fn166 : Fn := fnOf Tryz.f166 []
theorem fb166 : FnOK Tryz.prog 166 fn166 := fn_ok Tryz.func166 (by kernel_rfl)
noncomputable def fn167 : Fn := fnOf Tryz.f167 []
theorem fb167 : FnOK Tryz.prog 167 fn167 := fn_ok Tryz.func167 (by kernel_rfl)
noncomputable def fn168 : Fn := fnOf Tryz.f168 []
theorem fb168 : FnOK Tryz.prog 168 fn168 := fn_ok Tryz.func168 (by kernel_rfl)
noncomputable def fn169 : Fn := fnOf Tryz.f169 []
theorem fb169 : FnOK Tryz.prog 169 fn169 := fn_ok Tryz.func169 (by kernel_rfl)
noncomputable def fn170 : Fn := fnOf Tryz.f170 []
theorem fb170 : FnOK Tryz.prog 170 fn170 := fn_ok Tryz.func170 (by kernel_rfl)
noncomputable def fn171 : Fn := fnOf Tryz.f171 []
theorem fb171 : FnOK Tryz.prog 171 fn171 := fn_ok Tryz.func171 (by kernel_rfl)
noncomputable def fn172 : Fn := fnOf Tryz.f172 []
theorem fb172 : FnOK Tryz.prog 172 fn172 := fn_ok Tryz.func172 (by kernel_rfl)
noncomputable def fn173 : Fn := fnOf Tryz.f173 []
theorem fb173 : FnOK Tryz.prog 173 fn173 := fn_ok Tryz.func173 (by kernel_rfl)
noncomputable def fn174 : Fn := fnOf Tryz.f174 []
theorem fb174 : FnOK Tryz.prog 174 fn174 := fn_ok Tryz.func174 (by kernel_rfl)
noncomputable def fn175 : Fn := fnOf Tryz.f175 []
theorem fb175 : FnOK Tryz.prog 175 fn175 := fn_ok Tryz.func175 (by kernel_rfl)
noncomputable def fn176 : Fn := fnOf Tryz.f176 []
theorem fb176 : FnOK Tryz.prog 176 fn176 := fn_ok Tryz.func176 (by kernel_rfl)
noncomputable def fn177 : Fn := fnOf Tryz.f177 []
theorem fb177 : FnOK Tryz.prog 177 fn177 := fn_ok Tryz.func177 (by kernel_rfl)
noncomputable def fn178 : Fn := fnOf Tryz.f178 []
theorem fb178 : FnOK Tryz.prog 178 fn178 := fn_ok Tryz.func178 (by kernel_rfl)
noncomputable def fn179 : Fn := fnOf Tryz.f179 []
theorem fb179 : FnOK Tryz.prog 179 fn179 := fn_ok Tryz.func179 (by kernel_rfl)
noncomputable def fn180 : Fn := fnOf Tryz.f180 []
theorem fb180 : FnOK Tryz.prog 180 fn180 := fn_ok Tryz.func180 (by kernel_rfl)
noncomputable def fn181 : Fn := fnOf Tryz.f181 []
theorem fb181 : FnOK Tryz.prog 181 fn181 := fn_ok Tryz.func181 (by kernel_rfl)
noncomputable def fn182 : Fn := fnOf Tryz.f182 [(7, [(3, 10), (5, 10), (7, 10), (9, 10)]), (16, [(3, 10), (5, 10), (7, 10), (9, 10)])]
theorem fb182 : FnOK Tryz.prog 182 fn182 := fn_ok Tryz.func182 (by kernel_rfl)
noncomputable def fn183 : Fn := fnOf Tryz.f183 []
theorem fb183 : FnOK Tryz.prog 183 fn183 := fn_ok Tryz.func183 (by kernel_rfl)
noncomputable def fn184 : Fn := fnOf Tryz.f184 []
theorem fb184 : FnOK Tryz.prog 184 fn184 := fn_ok Tryz.func184 (by kernel_rfl)
noncomputable def fn185 : Fn := fnOf Tryz.f185 []
theorem fb185 : FnOK Tryz.prog 185 fn185 := fn_ok Tryz.func185 (by kernel_rfl)
noncomputable def fn186 : Fn := fnOf Tryz.f186 []
theorem fb186 : FnOK Tryz.prog 186 fn186 := fn_ok Tryz.func186 (by kernel_rfl)
noncomputable def fn187 : Fn := fnOf Tryz.f187 []
theorem fb187 : FnOK Tryz.prog 187 fn187 := fn_ok Tryz.func187 (by kernel_rfl)
noncomputable def fn188 : Fn := fnOf Tryz.f188 []
theorem fb188 : FnOK Tryz.prog 188 fn188 := fn_ok Tryz.func188 (by kernel_rfl)
noncomputable def fn189 : Fn := fnOf Tryz.f189 []
theorem fb189 : FnOK Tryz.prog 189 fn189 := fn_ok Tryz.func189 (by kernel_rfl)
noncomputable def fn190 : Fn := fnOf Tryz.f190 []
theorem fb190 : FnOK Tryz.prog 190 fn190 := fn_ok Tryz.func190 (by kernel_rfl)
noncomputable def fn191 : Fn := fnOf Tryz.f191 []
theorem fb191 : FnOK Tryz.prog 191 fn191 := fn_ok Tryz.func191 (by kernel_rfl)
noncomputable def fn192 : Fn := fnOf Tryz.f192 []
theorem fb192 : FnOK Tryz.prog 192 fn192 := fn_ok Tryz.func192 (by kernel_rfl)
noncomputable def fn193 : Fn := fnOf Tryz.f193 []
theorem fb193 : FnOK Tryz.prog 193 fn193 := fn_ok Tryz.func193 (by kernel_rfl)
noncomputable def fn194 : Fn := fnOf Tryz.f194 []
theorem fb194 : FnOK Tryz.prog 194 fn194 := fn_ok Tryz.func194 (by kernel_rfl)
noncomputable def fn195 : Fn := fnOf Tryz.f195 []
theorem fb195 : FnOK Tryz.prog 195 fn195 := fn_ok Tryz.func195 (by kernel_rfl)
noncomputable def fn196 : Fn := fnOf Tryz.f196 []
theorem fb196 : FnOK Tryz.prog 196 fn196 := fn_ok Tryz.func196 (by kernel_rfl)
noncomputable def fn197 : Fn := fnOf Tryz.f197 []
theorem fb197 : FnOK Tryz.prog 197 fn197 := fn_ok Tryz.func197 (by kernel_rfl)
noncomputable def fn198 : Fn := fnOf Tryz.f198 []
theorem fb198 : FnOK Tryz.prog 198 fn198 := fn_ok Tryz.func198 (by kernel_rfl)
noncomputable def fn199 : Fn := fnOf Tryz.f199 []
theorem fb199 : FnOK Tryz.prog 199 fn199 := fn_ok Tryz.func199 (by kernel_rfl)
noncomputable def fn200 : Fn := fnOf Tryz.f200 []
theorem fb200 : FnOK Tryz.prog 200 fn200 := fn_ok Tryz.func200 (by kernel_rfl)
noncomputable def fn201 : Fn := fnOf Tryz.f201 []
theorem fb201 : FnOK Tryz.prog 201 fn201 := fn_ok Tryz.func201 (by kernel_rfl)
noncomputable def fn202 : Fn := fnOf Tryz.f202 []
theorem fb202 : FnOK Tryz.prog 202 fn202 := fn_ok Tryz.func202 (by kernel_rfl)
noncomputable def fn203 : Fn := fnOf Tryz.f203 []
theorem fb203 : FnOK Tryz.prog 203 fn203 := fn_ok Tryz.func203 (by kernel_rfl)
noncomputable def fn204 : Fn := fnOf Tryz.f204 []
theorem fb204 : FnOK Tryz.prog 204 fn204 := fn_ok Tryz.func204 (by kernel_rfl)
noncomputable def fn205 : Fn := fnOf Tryz.f205 []
theorem fb205 : FnOK Tryz.prog 205 fn205 := fn_ok Tryz.func205 (by kernel_rfl)
noncomputable def fn206 : Fn := fnOf Tryz.f206 []
theorem fb206 : FnOK Tryz.prog 206 fn206 := fn_ok Tryz.func206 (by kernel_rfl)
noncomputable def fn207 : Fn := fnOf Tryz.f207 []
theorem fb207 : FnOK Tryz.prog 207 fn207 := fn_ok Tryz.func207 (by kernel_rfl)
noncomputable def fn208 : Fn := fnOf Tryz.f208 []
theorem fb208 : FnOK Tryz.prog 208 fn208 := fn_ok Tryz.func208 (by kernel_rfl)
noncomputable def fn209 : Fn := fnOf Tryz.f209 []
theorem fb209 : FnOK Tryz.prog 209 fn209 := fn_ok Tryz.func209 (by kernel_rfl)
noncomputable def fn210 : Fn := fnOf Tryz.f210 []
theorem fb210 : FnOK Tryz.prog 210 fn210 := fn_ok Tryz.func210 (by kernel_rfl)
noncomputable def fn211 : Fn := fnOf Tryz.f211 []
theorem fb211 : FnOK Tryz.prog 211 fn211 := fn_ok Tryz.func211 (by kernel_rfl)
noncomputable def fn212 : Fn := fnOf Tryz.f212 []
theorem fb212 : FnOK Tryz.prog 212 fn212 := fn_ok Tryz.func212 (by kernel_rfl)
noncomputable def fnT : Tr Fn := .nd (.nd (.nd (.nd (.nd (.nd (.nd (.nd (.nil) (some fn127) (.nil)) (some fn63) (.nd (.nil) (some fn191) (.nil))) (some fn31) (.nd (.nd (.nil) (some fn159) (.nil)) (some fn95) (.nil))) (some fn15) (.nd (.nd (.nd (.nil) (some fn143) (.nil)) (some fn79) (.nd (.nil) (some fn207) (.nil))) (some fn47) (.nd (.nd (.nil) (some fn175) (.nil)) (some fn111) (.nil)))) (some fn7) (.nd (.nd (.nd (.nd (.nil) (some fn135) (.nil)) (some fn71) (.nd (.nil) (some fn199) (.nil))) (some fn39) (.nd (.nd (.nil) (some fn167) (.nil)) (some fn103) (.nil))) (some fn23) (.nd (.nd (.nd (.nil) (some fn151) (.nil)) (some fn87) (.nil)) (some fn55) (.nd (.nd (.nil) (some fn183) (.nil)) (some fn119) (.nil))))) (some fn3) (.nd (.nd (.nd (.nd (.nd (.nil) (some fn131) (.nil)) (some fn67) (.nd (.nil) (some fn195) (.nil))) (some fn35) (.nd (.nd (.nil) (some fn163) (.nil)) (some fn99) (.nil))) (some fn19) (.nd (.nd (.nd (.nil) (some fn147) (.nil)) (some fn83) (.nd (.nil) (some fn211) (.nil))) (some fn51) (.nd (.nd (.nil) (some fn179) (.nil)) (some fn115) (.nil)))) (some fn11) (.nd (.nd (.nd (.nd (.nil) (some fn139) (.nil)) (some fn75) (.nd (.nil) (some fn203) (.nil))) (some fn43) (.nd (.nd (.nil) (some fn171) (.nil)) (some fn107) (.nil))) (some fn27) (.nd (.nd (.nd (.nil) (some fn155) (.nil)) (some fn91) (.nil)) (some fn59) (.nd (.nd (.nil) (some fn187) (.nil)) (some fn123) (.nil)))))) (none) (.nd (.nd (.nd (.nd (.nd (.nd (.nil) (some fn129) (.nil)) (some fn65) (.nd (.nil) (some fn193) (.nil))) (some fn33) (.nd (.nd (.nil) (some fn161) (.nil)) (some fn97) (.nil))) (some fn17) (.nd (.nd (.nd (.nil) (some fn145) (.nil)) (some fn81) (.nd (.nil) (some fn209) (.nil))) (some fn49) (.nd (.nd (.nil) (some fn177) (.nil)) (some fn113) (.nil)))) (some fn9) (.nd (.nd (.nd (.nd (.nil) (some fn137) (.nil)) (some fn73) (.nd (.nil) (some fn201) (.nil))) (some fn41) (.nd (.nd (.nil) (some fn169) (.nil)) (some fn105) (.nil))) (some fn25) (.nd (.nd (.nd (.nil) (some fn153) (.nil)) (some fn89) (.nil)) (some fn57) (.nd (.nd (.nil) (some fn185) (.nil)) (some fn121) (.nil))))) (some fn5) (.nd (.nd (.nd (.nd (.nd (.nil) (some fn133) (.nil)) (some fn69) (.nd (.nil) (some fn197) (.nil))) (some fn37) (.nd (.nd (.nil) (some fn165) (.nil)) (some fn101) (.nil))) (some fn21) (.nd (.nd (.nil) (some fn85) (.nil)) (some fn53) (.nd (.nd (.nil) (some fn181) (.nil)) (some fn117) (.nil)))) (none) (.nd (.nd (.nd (.nd (.nil) (some fn141) (.nil)) (some fn77) (.nd (.nil) (some fn205) (.nil))) (some fn45) (.nd (.nd (.nil) (some fn173) (.nil)) (some fn109) (.nil))) (some fn29) (.nd (.nd (.nd (.nil) (some fn157) (.nil)) (some fn93) (.nil)) (some fn61) (.nd (.nd (.nil) (some fn189) (.nil)) (some fn125) (.nil))))))) (none) (.nd (.nd (.nd (.nd (.nd (.nd (.nd (.nil) (some fn128) (.nil)) (some fn64) (.nd (.nil) (some fn192) (.nil))) (some fn32) (.nd (.nd (.nil) (some fn160) (.nil)) (some fn96) (.nil))) (some fn16) (.nd (.nd (.nd (.nil) (some fn144) (.nil)) (some fn80) (.nd (.nil) (some fn208) (.nil))) (some fn48) (.nd (.nd (.nil) (some fn176) (.nil)) (some fn112) (.nil)))) (some fn8) (.nd (.nd (.nd (.nd (.nil) (some fn136) (.nil)) (some fn72) (.nd (.nil) (some fn200) (.nil))) (some fn40) (.nd (.nd (.nil) (some fn168) (.nil)) (some fn104) (.nil))) (some fn24) (.nd (.nd (.nd (.nil) (some fn152) (.nil)) (some fn88) (.nil)) (some fn56) (.nd (.nd (.nil) (some fn184) (.nil)) (some fn120) (.nil))))) (some fn4) (.nd (.nd (.nd (.nd (.nd (.nil) (some fn132) (.nil)) (some fn68) (.nd (.nil) (some fn196) (.nil))) (some fn36) (.nd (.nd (.nil) (some fn164) (.nil)) (some fn100) (.nil))) (some fn20) (.nd (.nd (.nd (.nil) (some fn148) (.nil)) (some fn84) (.nd (.nil) (some fn212) (.nil))) (some fn52) (.nd (.nd (.nil) (some fn180) (.nil)) (some fn116) (.nil)))) (some fn12) (.nd (.nd (.nd (.nd (.nil) (some fn140) (.nil)) (some fn76) (.nd (.nil) (some fn204) (.nil))) (some fn44) (.nd (.nd (.nil) (some fn172) (.nil)) (some fn108) (.nil))) (some fn28) (.nd (.nd (.nd (.nil) (some fn156) (.nil)) (some fn92) (.nil)) (some fn60) (.nd (.nd (.nil) (some fn188) (.nil)) (some fn124) (.nil)))))) (some fn2) (.nd (.nd (.nd (.nd (.nd (.nd (.nil) (some fn130) (.nil)) (some fn66) (.nd (.nil) (some fn194) (.nil))) (some fn34) (.nd (.nd (.nil) (some fn162) (.nil)) (some fn98) (.nil))) (some fn18) (.nd (.nd (.nd (.nil) (some fn146) (.nil)) (some fn82) (.nd (.nil) (some fn210) (.nil))) (some fn50) (.nd (.nd (.nil) (some fn178) (.nil)) (some fn114) (.nil)))) (some fn10) (.nd (.nd (.nd (.nd (.nil) (some fn138) (.nil)) (some fn74) (.nd (.nil) (some fn202) (.nil))) (some fn42) (.nd (.nd (.nil) (some fn170) (.nil)) (some fn106) (.nil))) (some fn26) (.nd (.nd (.nd (.nil) (some fn154) (.nil)) (some fn90) (.nil)) (some fn58) (.nd (.nd (.nil) (some fn186) (.nil)) (some fn122) (.nil))))) (some fn6) (.nd (.nd (.nd (.nd (.nd (.nil) (some fn134) (.nil)) (some fn70) (.nd (.nil) (some fn198) (.nil))) (some fn38) (.nd (.nd (.nil) (some fn166) (.nil)) (some fn102) (.nil))) (some fn22) (.nd (.nd (.nd (.nil) (some fn150) (.nil)) (some fn86) (.nil)) (some fn54) (.nd (.nd (.nil) (some fn182) (.nil)) (some fn118) (.nil)))) (some fn14) (.nd (.nd (.nd (.nd (.nil) (some fn142) (.nil)) (some fn78) (.nd (.nil) (some fn206) (.nil))) (some fn46) (.nd (.nd (.nil) (some fn174) (.nil)) (some fn110) (.nil))) (some fn30) (.nd (.nd (.nd (.nil) (some fn158) (.nil)) (some fn94) (.nil)) (some fn62) (.nd (.nd (.nil) (some fn190) (.nil)) (some fn126) (.nil)))))))
theorem fnOk : AllT (fun k fn => FnOK Tryz.prog k fn) fnT id := ⟨trivial, ⟨trivial, ⟨fb3, ⟨fb7, ⟨fb15, ⟨fb31, ⟨fb63, ⟨fb127, trivial, trivial⟩, ⟨fb191, trivial, trivial⟩⟩, ⟨fb95, ⟨fb159, trivial, trivial⟩, trivial⟩⟩, ⟨fb47, ⟨fb79, ⟨fb143, trivial, trivial⟩, ⟨fb207, trivial, trivial⟩⟩, ⟨fb111, ⟨fb175, trivial, trivial⟩, trivial⟩⟩⟩, ⟨fb23, ⟨fb39, ⟨fb71, ⟨fb135, trivial, trivial⟩, ⟨fb199, trivial, trivial⟩⟩, ⟨fb103, ⟨fb167, trivial, trivial⟩, trivial⟩⟩, ⟨fb55, ⟨fb87, ⟨fb151, trivial, trivial⟩, trivial⟩, ⟨fb119, ⟨fb183, trivial, trivial⟩, trivial⟩⟩⟩⟩, ⟨fb11, ⟨fb19, ⟨fb35, ⟨fb67, ⟨fb131, trivial, trivial⟩, ⟨fb195, trivial, trivial⟩⟩, ⟨fb99, ⟨fb163, trivial, trivial⟩, trivial⟩⟩, ⟨fb51, ⟨fb83, ⟨fb147, trivial, trivial⟩, ⟨fb211, trivial, trivial⟩⟩, ⟨fb115, ⟨fb179, trivial, trivial⟩, trivial⟩⟩⟩, ⟨fb27, ⟨fb43, ⟨fb75, ⟨fb139, trivial, trivial⟩, ⟨fb203, trivial, trivial⟩⟩, ⟨fb107, ⟨fb171, trivial, trivial⟩, trivial⟩⟩, ⟨fb59, ⟨fb91, ⟨fb155, trivial, trivial⟩, trivial⟩, ⟨fb123, ⟨fb187, trivial, trivial⟩, trivial⟩⟩⟩⟩⟩, ⟨fb5, ⟨fb9, ⟨fb17, ⟨fb33, ⟨fb65, ⟨fb129, trivial, trivial⟩, ⟨fb193, trivial, trivial⟩⟩, ⟨fb97, ⟨fb161, trivial, trivial⟩, trivial⟩⟩, ⟨fb49, ⟨fb81, ⟨fb145, trivial, trivial⟩, ⟨fb209, trivial, trivial⟩⟩, ⟨fb113, ⟨fb177, trivial, trivial⟩, trivial⟩⟩⟩, ⟨fb25, ⟨fb41, ⟨fb73, ⟨fb137, trivial, trivial⟩, ⟨fb201, trivial, trivial⟩⟩, ⟨fb105, ⟨fb169, trivial, trivial⟩, trivial⟩⟩, ⟨fb57, ⟨fb89, ⟨fb153, trivial, trivial⟩, trivial⟩, ⟨fb121, ⟨fb185, trivial, trivial⟩, trivial⟩⟩⟩⟩, ⟨trivial, ⟨fb21, ⟨fb37, ⟨fb69, ⟨fb133, trivial, trivial⟩, ⟨fb197, trivial, trivial⟩⟩, ⟨fb101, ⟨fb165, trivial, trivial⟩, trivial⟩⟩, ⟨fb53, ⟨fb85, trivial, trivial⟩, ⟨fb117, ⟨fb181, trivial, trivial⟩, trivial⟩⟩⟩, ⟨fb29, ⟨fb45, ⟨fb77, ⟨fb141, trivial, trivial⟩, ⟨fb205, trivial, trivial⟩⟩, ⟨fb109, ⟨fb173, trivial, trivial⟩, trivial⟩⟩, ⟨fb61, ⟨fb93, ⟨fb157, trivial, trivial⟩, trivial⟩, ⟨fb125, ⟨fb189, trivial, trivial⟩, trivial⟩⟩⟩⟩⟩⟩, ⟨fb2, ⟨fb4, ⟨fb8, ⟨fb16, ⟨fb32, ⟨fb64, ⟨fb128, trivial, trivial⟩, ⟨fb192, trivial, trivial⟩⟩, ⟨fb96, ⟨fb160, trivial, trivial⟩, trivial⟩⟩, ⟨fb48, ⟨fb80, ⟨fb144, trivial, trivial⟩, ⟨fb208, trivial, trivial⟩⟩, ⟨fb112, ⟨fb176, trivial, trivial⟩, trivial⟩⟩⟩, ⟨fb24, ⟨fb40, ⟨fb72, ⟨fb136, trivial, trivial⟩, ⟨fb200, trivial, trivial⟩⟩, ⟨fb104, ⟨fb168, trivial, trivial⟩, trivial⟩⟩, ⟨fb56, ⟨fb88, ⟨fb152, trivial, trivial⟩, trivial⟩, ⟨fb120, ⟨fb184, trivial, trivial⟩, trivial⟩⟩⟩⟩, ⟨fb12, ⟨fb20, ⟨fb36, ⟨fb68, ⟨fb132, trivial, trivial⟩, ⟨fb196, trivial, trivial⟩⟩, ⟨fb100, ⟨fb164, trivial, trivial⟩, trivial⟩⟩, ⟨fb52, ⟨fb84, ⟨fb148, trivial, trivial⟩, ⟨fb212, trivial, trivial⟩⟩, ⟨fb116, ⟨fb180, trivial, trivial⟩, trivial⟩⟩⟩, ⟨fb28, ⟨fb44, ⟨fb76, ⟨fb140, trivial, trivial⟩, ⟨fb204, trivial, trivial⟩⟩, ⟨fb108, ⟨fb172, trivial, trivial⟩, trivial⟩⟩, ⟨fb60, ⟨fb92, ⟨fb156, trivial, trivial⟩, trivial⟩, ⟨fb124, ⟨fb188, trivial, trivial⟩, trivial⟩⟩⟩⟩⟩, ⟨fb6, ⟨fb10, ⟨fb18, ⟨fb34, ⟨fb66, ⟨fb130, trivial, trivial⟩, ⟨fb194, trivial, trivial⟩⟩, ⟨fb98, ⟨fb162, trivial, trivial⟩, trivial⟩⟩, ⟨fb50, ⟨fb82, ⟨fb146, trivial, trivial⟩, ⟨fb210, trivial, trivial⟩⟩, ⟨fb114, ⟨fb178, trivial, trivial⟩, trivial⟩⟩⟩, ⟨fb26, ⟨fb42, ⟨fb74, ⟨fb138, trivial, trivial⟩, ⟨fb202, trivial, trivial⟩⟩, ⟨fb106, ⟨fb170, trivial, trivial⟩, trivial⟩⟩, ⟨fb58, ⟨fb90, ⟨fb154, trivial, trivial⟩, trivial⟩, ⟨fb122, ⟨fb186, trivial, trivial⟩, trivial⟩⟩⟩⟩, ⟨fb14, ⟨fb22, ⟨fb38, ⟨fb70, ⟨fb134, trivial, trivial⟩, ⟨fb198, trivial, trivial⟩⟩, ⟨fb102, ⟨fb166, trivial, trivial⟩, trivial⟩⟩, ⟨fb54, ⟨fb86, ⟨fb150, trivial, trivial⟩, trivial⟩, ⟨fb118, ⟨fb182, trivial, trivial⟩, trivial⟩⟩⟩, ⟨fb30, ⟨fb46, ⟨fb78, ⟨fb142, trivial, trivial⟩, ⟨fb206, trivial, trivial⟩⟩, ⟨fb110, ⟨fb174, trivial, trivial⟩, trivial⟩⟩, ⟨fb62, ⟨fb94, ⟨fb158, trivial, trivial⟩, trivial⟩, ⟨fb126, ⟨fb190, trivial, trivial⟩, trivial⟩⟩⟩⟩⟩⟩⟩
noncomputable def tab : Tab := ⟨tyT, fnT⟩
end Go.Proofs.YtplblmhnccdgcaaGreat.AM
