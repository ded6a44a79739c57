/- The program's types as a table that the evaluator reads, and that it is the program's own. -/
import Derived.Test.YtlhfajmcnbcabaaProg
import Derived.Test.YtlhfajmcnbcabaaFwA
import Derived.KernelRfl
namespace Go.Proofs.Ytlhfajmcnbcabaa
open Go Go.Fw
set_option maxRecDepth 100000
def tabc0 : List (Option TI) := [
  some { sz := 1, bytes := 0, zero := some (.tuple ⟨[]⟩), k := .other },
  some { sz := 1, bytes := 8, zero := some .nilFunc, k := .other },
  some { sz := 1, bytes := 8, zero := some (.int .i64 0), k := .int .i64 },
  some { sz := 1, bytes := 8, zero := some (.int .i64 0), k := .int .i64 },
  some { sz := 1, bytes := 1, zero := some (.bool false), k := .bool },
  some { sz := 1, bytes := 1, zero := some (.int .u8 0), k := .int .u8 },
  some { sz := 1, bytes := 1, zero := some (.int .u8 0), k := .int .u8 },
  some { sz := 4, bytes := 24, zero := some (.agg ⟨[.int .i64 0, .int .i64 0, .bool false, .int .u8 0]⟩), k := .strct [(0, 2), (1, 3), (2, 4), (3, 6)] },
  some { sz := 4, bytes := 24, zero := some (.agg ⟨[.int .i64 0, .int .i64 0, .bool false, .int .u8 0]⟩), k := .strct [(0, 2), (1, 3), (2, 4), (3, 6)] },
  some { sz := 1, bytes := 16, zero := some (.string { data := ⟨[]⟩ }), k := .str },
  some { sz := 1, bytes := 16, zero := some (.string { data := ⟨[]⟩ }), k := .str },
  some { sz := 1, bytes := 16, zero := some (.string { data := ⟨[]⟩ }), k := .str },
  some { sz := 1, bytes := 8, zero := some (.int .u64 0), k := .int .u64 },
  some { sz := 2, bytes := 24, zero := some (.agg ⟨[.string { data := { toList := [] } }, .int .u64 0]⟩), k := .strct [(0, 9), (1, 12)] },
  some { sz := 2, bytes := 24, zero := some (.agg ⟨[.string { data := { toList := [] } }, .int .u64 0]⟩), k := .strct [(0, 9), (1, 12)] },
  some { sz := 1, bytes := 8, zero := some (.pointer none), k := .ptr 301 }]
def tabc1 : List (Option TI) := [
  some { sz := 1, bytes := 8, zero := some (.pointer none), k := .ptr 304 },
  some { sz := 1, bytes := 8, zero := some (.pointer none), k := .ptr 312 },
  some { sz := 1, bytes := 8, zero := some (.agg ⟨[.pointer none]⟩), k := .strct [(0, 17)] },
  some { sz := 1, bytes := 8, zero := some (.agg ⟨[.pointer none]⟩), k := .strct [(0, 17)] },
  some { sz := 1, bytes := 16, zero := some .nilIface, k := .iface },
  some { sz := 1, bytes := 4, zero := some (.int .i32 0), k := .int .i32 },
  some { sz := 1, bytes := 24, zero := some (.slice none 0 0), k := .slice 58 },
  some { sz := 1, bytes := 24, zero := some (.agg ⟨[.slice none 0 0]⟩), k := .strct [(0, 22)] },
  some { sz := 1, bytes := 24, zero := some (.agg ⟨[.slice none 0 0]⟩), k := .strct [(0, 22)] },
  some { sz := 1, bytes := 24, zero := some (.slice none 0 0), k := .slice 53 },
  some { sz := 1, bytes := 24, zero := some (.slice none 0 0), k := .slice 3 },
  some { sz := 3, bytes := 72, zero := some (.agg ⟨[.slice none 0 0, .slice none 0 0, .slice none 0 0]⟩), k := .strct [(0, 24), (1, 25), (2, 26)] },
  some { sz := 3, bytes := 72, zero := some (.agg ⟨[.slice none 0 0, .slice none 0 0, .slice none 0 0]⟩), k := .strct [(0, 24), (1, 25), (2, 26)] },
  some { sz := 1, bytes := 4, zero := some (.int .u32 0), k := .int .u32 },
  some { sz := 1, bytes := 24, zero := some (.slice none 0 0), k := .slice 61 },
  some { sz := 3, bytes := 56, zero := some (.agg ⟨[.int .u32 0, .slice none 0 0, .slice none 0 0]⟩), k := .strct [(0, 29), (1, 26), (2, 30)] }]
def tabc2 : List (Option TI) := [
  some { sz := 3, bytes := 56, zero := some (.agg ⟨[.int .u32 0, .slice none 0 0, .slice none 0 0]⟩), k := .strct [(0, 29), (1, 26), (2, 30)] },
  some { sz := 1, bytes := 8, zero := some .nilFunc, k := .other },
  some { sz := 1, bytes := 8, zero := some .nilFunc, k := .other },
  some { sz := 1, bytes := 8, zero := some .nilFunc, k := .other },
  some { sz := 1, bytes := 8, zero := some (.int .i64 0), k := .int .i64 },
  some { sz := 1, bytes := 0, zero := some (.tuple ⟨[.agg { toList := [.slice none 0 0, .slice none 0 0, .slice none 0 0] }, .int .i64 0]⟩), k := .other },
  some { sz := 1, bytes := 8, zero := some .nilFunc, k := .other },
  some { sz := 1, bytes := 0, zero := some (.tuple ⟨[.int .u32 0, .int .i64 0]⟩), k := .other },
  some { sz := 1, bytes := 8, zero := some .nilFunc, k := .other },
  some { sz := 1, bytes := 8, zero := some .nilFunc, k := .other },
  some { sz := 1, bytes := 8, zero := some .nilFunc, k := .other },
  some { sz := 1, bytes := 8, zero := some .nilFunc, k := .other },
  some { sz := 1, bytes := 0, zero := some (.tuple ⟨[.agg { toList := [.int .u32 0, .slice none 0 0, .slice none 0 0] }, .int .i64 0]⟩), k := .other },
  some { sz := 1, bytes := 8, zero := some .nilFunc, k := .other },
  some { sz := 1, bytes := 8, zero := some .nilFunc, k := .other },
  some { sz := 3, bytes := 32, zero := some (.agg ⟨[.int .i64 0, .string { data := { toList := [] } }, .int .i64 0]⟩), k := .strct [(0, 3), (1, 9), (2, 3)] }]
def tabc3 : List (Option TI) := [
  some { sz := 3, bytes := 32, zero := some (.agg ⟨[.int .i64 0, .string { data := { toList := [] } }, .int .i64 0]⟩), k := .strct [(0, 3), (1, 9), (2, 3)] },
  some { sz := 1, bytes := 8, zero := some .nilFunc, k := .other },
  some { sz := 1, bytes := 8, zero := some .nilFunc, k := .other },
  some { sz := 1, bytes := 24, zero := some (.slice none 0 0), k := .slice 48 },
  some { sz := 3, bytes := 40, zero := some (.agg ⟨[.int .i64 0, .int .i64 0, .slice none 0 0]⟩), k := .strct [(0, 3), (1, 3), (2, 51)] },
  some { sz := 3, bytes := 40, zero := some (.agg ⟨[.int .i64 0, .int .i64 0, .slice none 0 0]⟩), k := .strct [(0, 3), (1, 3), (2, 51)] },
  some { sz := 3, bytes := 40, zero := some (.agg ⟨[.string { data := { toList := [] } }, .int .i64 0, .string { data := { toList := [] } }]⟩), k := .strct [(0, 9), (1, 3), (2, 9)] },
  some { sz := 3, bytes := 40, zero := some (.agg ⟨[.string { data := { toList := [] } }, .int .i64 0, .string { data := { toList := [] } }]⟩), k := .strct [(0, 9), (1, 3), (2, 9)] },
  some { sz := 1, bytes := 24, zero := some (.slice none 0 0), k := .slice 55 },
  some { sz := 2, bytes := 40, zero := some (.agg ⟨[.string { data := { toList := [] } }, .slice none 0 0]⟩), k := .strct [(0, 9), (1, 56)] },
  some { sz := 2, bytes := 40, zero := some (.agg ⟨[.string { data := { toList := [] } }, .slice none 0 0]⟩), k := .strct [(0, 9), (1, 56)] },
  some { sz := 1, bytes := 24, zero := some (.slice none 0 0), k := .slice 63 },
  some { sz := 3, bytes := 40, zero := some (.agg ⟨[.int .i64 0, .int .i64 0, .slice none 0 0]⟩), k := .strct [(0, 3), (1, 3), (2, 59)] },
  some { sz := 3, bytes := 40, zero := some (.agg ⟨[.int .i64 0, .int .i64 0, .slice none 0 0]⟩), k := .strct [(0, 3), (1, 3), (2, 59)] },
  some { sz := 4, bytes := 40, zero := some (.agg ⟨[.int .i64 0, .int .i64 0, .string { data := { toList := [] } }, .int .i64 0]⟩), k := .strct [(0, 3), (1, 48)] },
  some { sz := 4, bytes := 40, zero := some (.agg ⟨[.int .i64 0, .int .i64 0, .string { data := { toList := [] } }, .int .i64 0]⟩), k := .strct [(0, 3), (1, 48)] }]
def tabc4 : List (Option TI) := [
  some { sz := 1, bytes := 8, zero := some .nilFunc, k := .other },
  some { sz := 1, bytes := 8, zero := some .nilFunc, k := .other },
  some { sz := 5, bytes := 64, zero := some (.agg ⟨[.int .i64 0, .string { data := { toList := [] } }, .string { data := { toList := [] } }, .int .i64 0, .string { data := { toList := [] } }]⟩), k := .strct [(0, 3), (1, 9), (2, 55)] },
  some { sz := 5, bytes := 64, zero := some (.agg ⟨[.int .i64 0, .string { data := { toList := [] } }, .string { data := { toList := [] } }, .int .i64 0, .string { data := { toList := [] } }]⟩), k := .strct [(0, 3), (1, 9), (2, 55)] },
  some { sz := 1, bytes := 24, zero := some (.slice none 0 0), k := .slice 5 },
  some { sz := 1, bytes := 0, zero := some (.tuple ⟨[.slice none 0 0, .int .i64 0]⟩), k := .other },
  some { sz := 1, bytes := 8, zero := some .nilFunc, k := .other },
  some { sz := 1, bytes := 8, zero := some .nilFunc, k := .other },
  some { sz := 1, bytes := 24, zero := some (.slice none 0 0), k := .slice 80 },
  some { sz := 4, bytes := 96, zero := some (.agg ⟨[.slice none 0 0, .slice none 0 0, .slice none 0 0, .slice none 0 0]⟩), k := .strct [(0, 26), (1, 26), (2, 72), (3, 26)] },
  some { sz := 4, bytes := 96, zero := some (.agg ⟨[.slice none 0 0, .slice none 0 0, .slice none 0 0, .slice none 0 0]⟩), k := .strct [(0, 26), (1, 26), (2, 72), (3, 26)] },
  some { sz := 1, bytes := 8, zero := some .nilFunc, k := .other },
  some { sz := 1, bytes := 8, zero := some .nilFunc, k := .other },
  some { sz := 1, bytes := 8, zero := some .nilFunc, k := .other },
  some { sz := 1, bytes := 0, zero := some (.tuple ⟨[.agg { toList := [.slice none 0 0, .slice none 0 0, .slice none 0 0] }, .agg { toList := [.slice none 0 0, .slice none 0 0, .slice none 0 0, .slice none 0 0] }, .int .i64 0]⟩), k := .other },
  some { sz := 1, bytes := 8, zero := some .nilFunc, k := .other }]
def tabc5 : List (Option TI) := [
  some { sz := 2, bytes := 16, zero := some (.agg ⟨[.int .i64 0, .int .i64 0]⟩), k := .array 2 3 },
  some { sz := 1, bytes := 8, zero := some .nilFunc, k := .other },
  some { sz := 1, bytes := 0, zero := some (.tuple ⟨[.agg { toList := [.slice none 0 0, .slice none 0 0, .slice none 0 0, .slice none 0 0] }, .int .i64 0]⟩), k := .other },
  some { sz := 1, bytes := 8, zero := some .nilFunc, k := .other },
  some { sz := 1, bytes := 8, zero := some .nilFunc, k := .other },
  some { sz := 1, bytes := 8, zero := some .nilFunc, k := .other },
  some { sz := 1, bytes := 8, zero := some .nilFunc, k := .other },
  some { sz := 1, bytes := 8, zero := some .nilFunc, k := .other },
  some { sz := 1, bytes := 8, zero := some .nilFunc, k := .other },
  some { sz := 1, bytes := 8, zero := some .nilFunc, k := .other },
  some { sz := 1, bytes := 8, zero := some (.pointer none), k := .ptr 93 },
  some { sz := 1, bytes := 8, zero := some (.map none), k := .map 3 3 },
  some { sz := 4, bytes := 80, zero := some (.agg ⟨[.slice none 0 0, .slice none 0 0, .slice none 0 0, .map none]⟩), k := .strct [(0, 28), (3, 91)] },
  some { sz := 4, bytes := 80, zero := some (.agg ⟨[.slice none 0 0, .slice none 0 0, .slice none 0 0, .map none]⟩), k := .strct [(0, 28), (3, 91)] },
  some { sz := 1, bytes := 0, zero := some (.tuple ⟨[.slice none 0 0, .bool false]⟩), k := .other },
  some { sz := 1, bytes := 8, zero := some .nilFunc, k := .other }]
def tabc6 : List (Option TI) := [
  some { sz := 1, bytes := 8, zero := some .nilFunc, k := .other },
  some { sz := 1, bytes := 8, zero := some .nilFunc, k := .other },
  some { sz := 1, bytes := 24, zero := some (.slice none 0 0), k := .slice 68 },
  some { sz := 1, bytes := 8, zero := some .nilFunc, k := .other },
  some { sz := 1, bytes := 8, zero := some .nilFunc, k := .other },
  some { sz := 1, bytes := 8, zero := some (.int .u64 0), k := .int .u64 },
  some { sz := 1, bytes := 8, zero := some .nilFunc, k := .other },
  some { sz := 1, bytes := 8, zero := some .nilFunc, k := .other },
  some { sz := 1, bytes := 8, zero := some .nilFunc, k := .other },
  some { sz := 1, bytes := 8, zero := some .nilFunc, k := .other },
  some { sz := 1, bytes := 8, zero := some .nilFunc, k := .other },
  some { sz := 1, bytes := 8, zero := some .nilFunc, k := .other },
  some { sz := 1, bytes := 8, zero := some (.pointer none), k := .ptr 112 },
  some { sz := 1, bytes := 8, zero := some .nilFunc, k := .other },
  some { sz := 1, bytes := 8, zero := some .nilFunc, k := .other },
  some { sz := 2, bytes := 32, zero := some (.agg ⟨[.slice none 0 0, .map none]⟩), k := .strct [(0, 26), (1, 91)] }]
def tabc7 : List (Option TI) := [
  some { sz := 2, bytes := 32, zero := some (.agg ⟨[.slice none 0 0, .map none]⟩), k := .strct [(0, 26), (1, 91)] },
  some { sz := 1, bytes := 8, zero := some .nilFunc, k := .other },
  some { sz := 1, bytes := 8, zero := some .nilFunc, k := .other },
  some { sz := 1, bytes := 8, zero := some .nilFunc, k := .other },
  some { sz := 1, bytes := 8, zero := some .nilFunc, k := .other },
  some { sz := 1, bytes := 0, zero := some (.tuple ⟨[.int .i64 0, .bool false]⟩), k := .other },
  some { sz := 1, bytes := 8, zero := some .nilFunc, k := .other },
  some { sz := 1, bytes := 8, zero := some .nilFunc, k := .other },
  some { sz := 1, bytes := 8, zero := some .nilFunc, k := .other },
  some { sz := 1, bytes := 8, zero := some .nilFunc, k := .other },
  some { sz := 1, bytes := 8, zero := some .nilFunc, k := .other },
  some { sz := 1, bytes := 8, zero := some .nilFunc, k := .other },
  some { sz := 1, bytes := 24, zero := some (.slice none 0 0), k := .slice 67 },
  some { sz := 1, bytes := 0, zero := some (.tuple ⟨[.slice none 0 0, .bool false]⟩), k := .other },
  some { sz := 1, bytes := 8, zero := some .nilFunc, k := .other },
  some { sz := 1, bytes := 8, zero := some (.pointer none), k := .ptr 131 }]
def tabc8 : List (Option TI) := [
  some { sz := 1, bytes := 0, zero := some (.tuple ⟨[.pointer none, .int .i64 0]⟩), k := .other },
  some { sz := 1, bytes := 8, zero := some .nilFunc, k := .other },
  some { sz := 8, bytes := 104, zero := some (.agg ⟨[.slice none 0 0, .int .i64 0, .string { data := { toList := [] } }, .string { data := { toList := [] } }, .int .i64 0, .string { data := { toList := [] } }, .int .i64 0, .int .i64 0]⟩), k := .strct [(0, 24), (1, 67), (6, 3), (7, 3)] },
  some { sz := 8, bytes := 104, zero := some (.agg ⟨[.slice none 0 0, .int .i64 0, .string { data := { toList := [] } }, .string { data := { toList := [] } }, .int .i64 0, .string { data := { toList := [] } }, .int .i64 0, .int .i64 0]⟩), k := .strct [(0, 24), (1, 67), (6, 3), (7, 3)] },
  some { sz := 1, bytes := 8, zero := some .nilFunc, k := .other },
  some { sz := 1, bytes := 8, zero := some .nilFunc, k := .other },
  some { sz := 1, bytes := 8, zero := some .nilFunc, k := .other },
  some { sz := 1, bytes := 8, zero := some .nilFunc, k := .other },
  some { sz := 1, bytes := 8, zero := some .nilFunc, k := .other },
  some { sz := 1, bytes := 8, zero := some .nilFunc, k := .other },
  some { sz := 1, bytes := 8, zero := some .nilFunc, k := .other },
  some { sz := 1, bytes := 8, zero := some .nilFunc, k := .other },
  some { sz := 1, bytes := 8, zero := some .nilFunc, k := .other },
  some { sz := 1, bytes := 8, zero := some .nilFunc, k := .other },
  some { sz := 1, bytes := 8, zero := some .nilFunc, k := .other },
  some { sz := 1, bytes := 8, zero := some .nilFunc, k := .other }]
def tabc9 : List (Option TI) := [
  some { sz := 1, bytes := 8, zero := some .nilFunc, k := .other },
  some { sz := 1, bytes := 8, zero := some .nilFunc, k := .other },
  some { sz := 9, bytes := 216, zero := some (.agg ⟨[.slice none 0 0, .slice none 0 0, .slice none 0 0, .slice none 0 0, .slice none 0 0, .slice none 0 0, .slice none 0 0, .slice none 0 0, .slice none 0 0]⟩), k := .strct [(0, 28), (3, 28), (6, 28)] },
  some { sz := 9, bytes := 216, zero := some (.agg ⟨[.slice none 0 0, .slice none 0 0, .slice none 0 0, .slice none 0 0, .slice none 0 0, .slice none 0 0, .slice none 0 0, .slice none 0 0, .slice none 0 0]⟩), k := .strct [(0, 28), (3, 28), (6, 28)] },
  some { sz := 1, bytes := 8, zero := some .nilFunc, k := .other },
  some { sz := 1, bytes := 8, zero := some (.map none), k := .map 3 53 },
  some { sz := 1, bytes := 0, zero := some (.tuple ⟨[.map none, .slice none 0 0, .agg { toList := [.slice none 0 0, .slice none 0 0, .slice none 0 0, .slice none 0 0] }]⟩), k := .other },
  some { sz := 1, bytes := 8, zero := some .nilFunc, k := .other },
  some { sz := 1, bytes := 8, zero := some (.map none), k := .map 3 4 },
  some { sz := 1, bytes := 8, zero := some .nilFunc, k := .other },
  some { sz := 1, bytes := 8, zero := some .nilFunc, k := .other },
  some { sz := 1, bytes := 8, zero := some .nilFunc, k := .other },
  some { sz := 1, bytes := 0, zero := some (.tuple ⟨[.agg { toList := [.int .i64 0, .int .i64 0, .slice none 0 0] }, .bool false]⟩), k := .other },
  some { sz := 1, bytes := 8, zero := some .nilFunc, k := .other },
  some { sz := 1, bytes := 8, zero := some .nilFunc, k := .other },
  some { sz := 1, bytes := 8, zero := some .nilFunc, k := .other }]
def tabc10 : List (Option TI) := [
  some { sz := 1, bytes := 8, zero := some .nilFunc, k := .other },
  some { sz := 1, bytes := 8, zero := some .nilFunc, k := .other },
  some { sz := 1, bytes := 8, zero := some .nilFunc, k := .other },
  some { sz := 1, bytes := 8, zero := some (.agg ⟨[.int .i64 0]⟩), k := .strct [(0, 36)] },
  some { sz := 1, bytes := 8, zero := some (.agg ⟨[.int .i64 0]⟩), k := .strct [(0, 36)] },
  some { sz := 1, bytes := 8, zero := some .nilFunc, k := .other },
  some { sz := 1, bytes := 8, zero := some .nilFunc, k := .other },
  some { sz := 1, bytes := 8, zero := some .nilFunc, k := .other },
  some { sz := 1, bytes := 8, zero := some .nilFunc, k := .other },
  some { sz := 1, bytes := 8, zero := some .nilFunc, k := .other },
  some { sz := 2, bytes := 32, zero := some (.agg ⟨[.int .u32 0, .slice none 0 0]⟩), k := .strct [(0, 29), (1, 98)] },
  some { sz := 2, bytes := 32, zero := some (.agg ⟨[.int .u32 0, .slice none 0 0]⟩), k := .strct [(0, 29), (1, 98)] },
  some { sz := 1, bytes := 8, zero := some (.int .u64 0), k := .int .u64 },
  some { sz := 1, bytes := 8, zero := some .nilFunc, k := .other },
  some { sz := 1, bytes := 8, zero := some .nilFunc, k := .other },
  some { sz := 1, bytes := 8, zero := some .nilFunc, k := .other }]
def tabc11 : List (Option TI) := [
  some { sz := 1, bytes := 8, zero := some .nilFunc, k := .other },
  some { sz := 1, bytes := 8, zero := some .nilFunc, k := .other },
  some { sz := 1, bytes := 8, zero := some .nilFunc, k := .other },
  some { sz := 1, bytes := 8, zero := some .nilFunc, k := .other },
  some { sz := 1, bytes := 8, zero := some .nilFunc, k := .other },
  some { sz := 1, bytes := 8, zero := some .nilFunc, k := .other },
  some { sz := 1, bytes := 8, zero := some .nilFunc, k := .other },
  some { sz := 1, bytes := 8, zero := some .nilFunc, k := .other },
  some { sz := 1, bytes := 8, zero := some .nilFunc, k := .other },
  some { sz := 1, bytes := 8, zero := some .nilFunc, k := .other },
  some { sz := 1, bytes := 8, zero := some (.pointer none), k := .ptr 58 },
  some { sz := 1, bytes := 8, zero := some .nilFunc, k := .other },
  some { sz := 1, bytes := 8, zero := some .nilFunc, k := .other },
  some { sz := 1, bytes := 8, zero := some .nilFunc, k := .other },
  some { sz := 1, bytes := 8, zero := some .nilFunc, k := .other },
  some { sz := 1, bytes := 8, zero := some .nilFunc, k := .other }]
def tabc12 : List (Option TI) := [
  some { sz := 1, bytes := 8, zero := some .nilFunc, k := .other },
  some { sz := 1, bytes := 8, zero := some .nilFunc, k := .other },
  some { sz := 1, bytes := 8, zero := some .nilFunc, k := .other },
  some { sz := 1, bytes := 8, zero := some .nilFunc, k := .other },
  some { sz := 1, bytes := 8, zero := some .nilFunc, k := .other },
  some { sz := 1, bytes := 8, zero := some .nilFunc, k := .other },
  some { sz := 6, bytes := 144, zero := some (.agg ⟨[.slice none 0 0, .slice none 0 0, .slice none 0 0, .slice none 0 0, .slice none 0 0, .slice none 0 0]⟩), k := .array 2 28 },
  some { sz := 18, bytes := 432, zero := some (.agg ⟨[.slice none 0 0, .slice none 0 0, .slice none 0 0, .slice none 0 0, .slice none 0 0, .slice none 0 0, .slice none 0 0, .slice none 0 0, .slice none 0 0, .slice none 0 0, .slice none 0 0, .slice none 0 0, .slice none 0 0, .slice none 0 0, .slice none 0 0, .slice none 0 0, .slice none 0 0, .slice none 0 0]⟩), k := .array 3 198 },
  some { sz := 1, bytes := 0, zero := some (.tuple ⟨[.agg { toList := [.int .i64 0, .int .i64 0, .slice none 0 0] }, .slice none 0 0]⟩), k := .other },
  some { sz := 1, bytes := 8, zero := some .nilFunc, k := .other },
  some { sz := 1, bytes := 8, zero := some .nilFunc, k := .other },
  some { sz := 1, bytes := 8, zero := some .nilFunc, k := .other },
  some { sz := 1, bytes := 8, zero := some .nilFunc, k := .other },
  some { sz := 1, bytes := 8, zero := some .nilFunc, k := .other },
  some { sz := 1, bytes := 8, zero := some (.pointer none), k := .ptr 208 },
  some { sz := 2, bytes := 32, zero := some (.agg ⟨[.pointer none, .slice none 0 0]⟩), k := .strct [(0, 206), (1, 68)] }]
def tabc13 : List (Option TI) := [
  some { sz := 2, bytes := 32, zero := some (.agg ⟨[.pointer none, .slice none 0 0]⟩), k := .strct [(0, 206), (1, 68)] },
  some { sz := 1, bytes := 24, zero := some (.slice none 0 0), k := .slice 9 },
  some { sz := 6, bytes := 96, zero := some (.agg ⟨[.string { data := { toList := [] } }, .string { data := { toList := [] } }, .string { data := { toList := [] } }, .string { data := { toList := [] } }, .string { data := { toList := [] } }, .string { data := { toList := [] } }]⟩), k := .array 6 9 },
  some { sz := 1, bytes := 8, zero := some .nilFunc, k := .other },
  some { sz := 1, bytes := 16, zero := some .nilIface, k := .iface },
  some { sz := 1, bytes := 16, zero := some .nilIface, k := .iface },
  some { sz := 1, bytes := 0, zero := some (.tuple ⟨[.int .i64 0, .nilIface]⟩), k := .other },
  some { sz := 1, bytes := 8, zero := some .nilFunc, k := .other },
  some { sz := 1, bytes := 8, zero := some .nilFunc, k := .other },
  some { sz := 1, bytes := 8, zero := some .nilFunc, k := .other },
  some { sz := 1, bytes := 0, zero := some (.tuple ⟨[.slice none 0 0, .bool false]⟩), k := .other },
  some { sz := 1, bytes := 8, zero := some .nilFunc, k := .other },
  some { sz := 1, bytes := 8, zero := some .nilFunc, k := .other },
  some { sz := 1, bytes := 8, zero := some .nilFunc, k := .other },
  some { sz := 256, bytes := 1024, zero := some (.agg ⟨List.replicate 256 (.int .u32 0)⟩), k := .array 256 29 },
  some { sz := 1, bytes := 8, zero := some .nilFunc, k := .other }]
def tabc14 : List (Option TI) := [
  some { sz := 1, bytes := 8, zero := some .nilFunc, k := .other },
  some { sz := 1, bytes := 8, zero := some .nilFunc, k := .other },
  some { sz := 1, bytes := 8, zero := some .nilFunc, k := .other },
  some { sz := 1, bytes := 8, zero := some .nilFunc, k := .other },
  some { sz := 1, bytes := 8, zero := some .nilFunc, k := .other },
  some { sz := 1, bytes := 8, zero := some .nilFunc, k := .other },
  some { sz := 1, bytes := 8, zero := some .nilFunc, k := .other },
  some { sz := 1, bytes := 8, zero := some .nilFunc, k := .other },
  some { sz := 1, bytes := 8, zero := some .nilFunc, k := .other },
  some { sz := 1, bytes := 8, zero := some (.pointer none), k := .ptr 55 },
  some { sz := 1, bytes := 8, zero := some .nilFunc, k := .other },
  some { sz := 1, bytes := 8, zero := some .nilFunc, k := .other },
  some { sz := 2, bytes := 32, zero := some (.agg ⟨[.int .i64 0, .slice none 0 0]⟩), k := .strct [(0, 3), (1, 68)] },
  some { sz := 2, bytes := 32, zero := some (.agg ⟨[.int .i64 0, .slice none 0 0]⟩), k := .strct [(0, 3), (1, 68)] },
  some { sz := 1, bytes := 24, zero := some (.slice none 0 0), k := .slice 237 },
  some { sz := 1, bytes := 8, zero := some .nilFunc, k := .other }]
def tabc15 : List (Option TI) := [
  some { sz := 1, bytes := 8, zero := some .nilFunc, k := .other },
  some { sz := 1, bytes := 24, zero := some (.slice none 0 0), k := .slice 26 },
  some { sz := 1, bytes := 8, zero := some .nilFunc, k := .other },
  some { sz := 1, bytes := 8, zero := some .nilFunc, k := .other },
  some { sz := 1, bytes := 24, zero := some (.slice none 0 0), k := .slice 72 },
  some { sz := 1, bytes := 8, zero := some .nilFunc, k := .other },
  some { sz := 1, bytes := 8, zero := some .nilFunc, k := .other },
  some { sz := 1, bytes := 0, zero := some (.tuple { toList := [.agg ⟨[.int .i64 0, .string { data := { toList := [] } }, .int .i64 0]⟩, .bool false] }), k := .other },
  some { sz := 1, bytes := 8, zero := some .nilFunc, k := .other },
  some { sz := 1, bytes := 8, zero := some .nilFunc, k := .other },
  some { sz := 1, bytes := 8, zero := some (.int .i64 0), k := .int .i64 },
  some { sz := 1, bytes := 0, zero := some (.tuple ⟨[.int .i64 0, .int .i64 0]⟩), k := .other },
  some { sz := 1, bytes := 8, zero := some .nilFunc, k := .other },
  some { sz := 1, bytes := 8, zero := some .nilFunc, k := .other },
  some { sz := 1, bytes := 8, zero := some .nilFunc, k := .other },
  some { sz := 1, bytes := 8, zero := some .nilFunc, k := .other }]
def tabc16 : List (Option TI) := [
  some { sz := 1, bytes := 8, zero := some .nilFunc, k := .other },
  some { sz := 1, bytes := 8, zero := some .nilFunc, k := .other },
  some { sz := 1, bytes := 8, zero := some (.pointer none), k := .ptr 5 },
  some { sz := 1, bytes := 0, zero := some (.tuple ⟨[.string { data := { toList := [] } }, .bool false]⟩), k := .other },
  some { sz := 1, bytes := 8, zero := some (.int .i64 0), k := .int .i64 },
  some { sz := 1, bytes := 0, zero := some (.tuple ⟨[.int .i64 0, .bool false]⟩), k := .other },
  some { sz := 1, bytes := 8, zero := some .nilFunc, k := .other },
  some { sz := 1, bytes := 8, zero := some .nilFunc, k := .other },
  some { sz := 1, bytes := 8, zero := some .nilFunc, k := .other },
  some { sz := 1, bytes := 24, zero := some (.slice none 0 0), k := .slice 124 },
  some { sz := 1, bytes := 8, zero := some .nilFunc, k := .other },
  some { sz := 1, bytes := 24, zero := some (.slice none 0 0), k := .slice 101 },
  some { sz := 1, bytes := 8, zero := some .nilFunc, k := .other },
  some { sz := 1, bytes := 8, zero := some .nilFunc, k := .other },
  some { sz := 1, bytes := 8, zero := some .nilFunc, k := .other },
  some { sz := 1, bytes := 8, zero := some .nilFunc, k := .other }]
def tabc17 : List (Option TI) := [
  some { sz := 1, bytes := 8, zero := some .nilFunc, k := .other },
  some { sz := 1, bytes := 8, zero := some .nilFunc, k := .other },
  some { sz := 1, bytes := 8, zero := some .nilFunc, k := .other },
  some { sz := 1, bytes := 8, zero := some .nilFunc, k := .other },
  some { sz := 1, bytes := 8, zero := some .nilFunc, k := .other },
  some { sz := 1, bytes := 8, zero := some .nilFunc, k := .other },
  some { sz := 1, bytes := 8, zero := some .nilFunc, k := .other },
  some { sz := 1, bytes := 8, zero := some .nilFunc, k := .other },
  some { sz := 1, bytes := 8, zero := some .nilFunc, k := .other },
  some { sz := 1, bytes := 8, zero := some (.int .u64 0), k := .int .u64 },
  some { sz := 1, bytes := 8, zero := some .nilFunc, k := .other },
  some { sz := 1, bytes := 8, zero := some .nilFunc, k := .other },
  some { sz := 1, bytes := 8, zero := some .nilFunc, k := .other },
  some { sz := 1, bytes := 8, zero := some (.pointer none), k := .ptr 3 },
  some { sz := 1, bytes := 8, zero := some .nilFunc, k := .other },
  some { sz := 1, bytes := 8, zero := some (.pointer none), k := .other }]
def tabc18 : List (Option TI) := [
  some { sz := 1, bytes := 8, zero := some .nilFunc, k := .other },
  some { sz := 1, bytes := 8, zero := some .nilFunc, k := .other },
  some { sz := 1, bytes := 8, zero := some .nilFunc, k := .other },
  some { sz := 1, bytes := 8, zero := some .nilFunc, k := .other },
  some { sz := 1, bytes := 8, zero := some .nilFunc, k := .other },
  some { sz := 1, bytes := 8, zero := some .nilFunc, k := .other },
  some { sz := 1, bytes := 8, zero := some (.pointer none), k := .ptr 281 },
  some { sz := 1, bytes := 0, zero := some (.tuple ⟨[.int .i64 0, .int .i64 0]⟩), k := .other },
  some { sz := 1, bytes := 8, zero := some .nilFunc, k := .other },
  some { sz := 1, bytes := 8, zero := some .nilFunc, k := .other },
  some { sz := 1, bytes := 8, zero := some .nilFunc, k := .other },
  some { sz := 1, bytes := 8, zero := some .nilFunc, k := .other },
  some { sz := 4, bytes := 40, zero := some (.agg ⟨[.pointer none, .pointer none, .pointer none, .string { data := { toList := [] } }]⟩), k := .strct [(0, 17), (1, 17), (2, 17), (3, 9)] },
  some { sz := 4, bytes := 40, zero := some (.agg ⟨[.pointer none, .pointer none, .pointer none, .string { data := { toList := [] } }]⟩), k := .strct [(0, 17), (1, 17), (2, 17), (3, 9)] },
  some { sz := 0, bytes := 0, zero := some (.agg ⟨[]⟩), k := .array 0 16 },
  some { sz := 0, bytes := 0, zero := some (.agg ⟨[]⟩), k := .strct [(0, 302)] }]
def tabc19 : List (Option TI) := [
  some { sz := 0, bytes := 0, zero := some (.agg ⟨[]⟩), k := .strct [(0, 302)] },
  some { sz := 1, bytes := 8, zero := some .nilFunc, k := .other },
  some { sz := 1, bytes := 1, zero := some (.int .u8 0), k := .int .u8 },
  some { sz := 1, bytes := 1, zero := some (.int .u8 0), k := .int .u8 },
  some { sz := 1, bytes := 8, zero := some .nilFunc, k := .other },
  some { sz := 1, bytes := 4, zero := some (.int .i32 0), k := .int .i32 },
  some { sz := 1, bytes := 4, zero := some (.int .i32 0), k := .int .i32 },
  some { sz := 11, bytes := 48, zero := some (.agg ⟨[.int .u64 0, .int .u64 0, .int .u32 0, .int .u8 0, .int .u8 0, .int .u8 0, .int .u8 0, .nilFunc, .pointer none, .int .i32 0, .int .i32 0]⟩), k := .strct [(0, 12), (1, 12), (2, 29), (3, 306), (4, 5), (5, 5), (6, 307), (7, 308), (8, 258), (9, 309), (10, 310)] },
  some { sz := 11, bytes := 48, zero := some (.agg ⟨[.int .u64 0, .int .u64 0, .int .u32 0, .int .u8 0, .int .u8 0, .int .u8 0, .int .u8 0, .nilFunc, .pointer none, .int .i32 0, .int .i32 0]⟩), k := .strct [(0, 12), (1, 12), (2, 29), (3, 306), (4, 5), (5, 5), (6, 307), (7, 308), (8, 258), (9, 309), (10, 310)] }]
def tabcs : List (List (Option TI)) := [tabc0, tabc1, tabc2, tabc3, tabc4, tabc5, tabc6, tabc7, tabc8, tabc9, tabc10, tabc11, tabc12, tabc13, tabc14, tabc15, tabc16, tabc17, tabc18, tabc19]
def tab : Tab := fun t => match (tabcs[t / 16]?) with
  | some c => match c[t % 16]? with
    | some r => r
    | none => none
  | none => none
theorem tab_list : (List.range 313).map tab = (List.range 313).map (tiOf Try.prog) := by kernel_rfl
theorem tab_none (t : Nat) (h : 313 ≤ t) : tab t = none := by
  unfold tab
  split
  · rename_i c hc
    split
    · rename_i r hr
      exfalso
      have h1 := (List.getElem?_eq_some_iff.1 hc).1
      have hl : tabcs.length = 20 := rfl
      have h2 : t / 16 = 19 := by omega
      rw [h2] at hc
      have h3 : c = tabc19 := by simpa [tabcs] using hc.symm
      subst h3
      have h4 := (List.getElem?_eq_some_iff.1 hr).1
      have h5 : tabc19.length = 9 := rfl
      omega
    · rfl
  · rfl
theorem tab_ok : tab.OK Try.prog := by
  intro t i h
  rcases Nat.lt_or_ge t 313 with hlt | hge
  · have h1 := congrArg (fun l => l[t]?) tab_list
    simp only [List.getElem?_map, List.getElem?_range hlt, Option.map_some, Option.some.injEq] at h1
    rw [← h1]; exact h
  · rw [tab_none t hge] at h; cases h
end Go.Proofs.Ytlhfajmcnbcabaa
