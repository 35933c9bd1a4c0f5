/- Facts on types and functions. -/
import Derived.Test.YtkckakfkeooepaaJData
import Derived.Test.YtkckakfkeooepaaRows
namespace Go.Proofs.Ytkckakfkeooepaa
set_option linter.all false
set_option linter.unusedSimpArgs false
set_option linter.unusedVariables false
set_option linter.unnecessarySimpa false
open Go.RowKit
theorem ti2 : TI Try.prog 2 1 8 (Value.int .i64 0) := by unfold TI; kernel_rfl
theorem ti3 : TI Try.prog 3 1 8 (Value.int .i64 0) := by unfold TI; kernel_rfl
theorem ti4 : TI Try.prog 4 1 1 (Value.bool false) := by unfold TI; kernel_rfl
theorem ti5 : TI Try.prog 5 1 1 (Value.int .u8 0) := by unfold TI; kernel_rfl
theorem ti9 : TI Try.prog 9 1 16 (Value.string ⟨#[]⟩) := by unfold TI; kernel_rfl
theorem ti23 : TI Try.prog 23 32 32 (.agg (hL Hash.zero).toArray) := by unfold TI; kernel_rfl
theorem ti24 : TI Try.prog 24 1 8 (Value.int .u64 0) := by unfold TI; kernel_rfl
theorem ti26 : TI Try.prog 26 2 16 (.agg (pl (sigP Sig.zero)).toArray) := by unfold TI; kernel_rfl
theorem zo26 : zeroOf Try.prog 26 = some (pl [[Value.int .u64 0], [Value.int .u64 0]]).toArray := by kernel_rfl
theorem pl26 : placesOf Try.prog 26 = some ([[Value.int .u64 0], [Value.int .u64 0]].zipIdx.map fun p => (offP [[Value.int .u64 0], [Value.int .u64 0]] p.2, p.1.length)) := by kernel_rfl
theorem ti28 : TI Try.prog 28 69 104 (.agg (pl (headP Head.zero)).toArray) := by unfold TI; kernel_rfl
theorem zo28 : zeroOf Try.prog 28 = some (pl [[Value.int .i64 0], [Value.int .i64 0], [Value.int .i64 0], hL Hash.zero, hL Hash.zero, pl (sigP Sig.zero)]).toArray := by kernel_rfl
theorem pl28 : placesOf Try.prog 28 = some ([[Value.int .i64 0], [Value.int .i64 0], [Value.int .i64 0], hL Hash.zero, hL Hash.zero, pl (sigP Sig.zero)].zipIdx.map fun p => (offP [[Value.int .i64 0], [Value.int .i64 0], [Value.int .i64 0], hL Hash.zero, hL Hash.zero, pl (sigP Sig.zero)] p.2, p.1.length)) := by kernel_rfl
theorem ti29 : TI Try.prog 29 1 24 (Value.slice none 0 0) := by unfold TI; kernel_rfl
theorem ti32 : TI Try.prog 32 1 24 (Value.slice none 0 0) := by unfold TI; kernel_rfl
theorem ti33 : TI Try.prog 33 1 24 (Value.slice none 0 0) := by unfold TI; kernel_rfl
theorem ti34 : TI Try.prog 34 1 24 (Value.slice none 0 0) := by unfold TI; kernel_rfl
theorem ti38 : TI Try.prog 38 1 8 (Value.int .i64 0) := by unfold TI; kernel_rfl
theorem ti46 : TI Try.prog 46 1 24 (Value.slice none 0 0) := by unfold TI; kernel_rfl
theorem ti51 : TI Try.prog 51 1 24 (Value.slice none 0 0) := by unfold TI; kernel_rfl
theorem ti52 : TI Try.prog 52 1 24 (Value.slice none 0 0) := by unfold TI; kernel_rfl
theorem ti54 : TI Try.prog 54 2 48 (.agg (pl [[Value.slice none 0 0], [Value.slice none 0 0]]).toArray) := by unfold TI; kernel_rfl
theorem zo54 : zeroOf Try.prog 54 = some (pl [[Value.slice none 0 0], [Value.slice none 0 0]]).toArray := by kernel_rfl
theorem ti55 : TI Try.prog 55 1 24 (Value.slice none 0 0) := by unfold TI; kernel_rfl
theorem ti60 : TI Try.prog 60 64 64 (.agg (pl (itemP Item.zero)).toArray) := by unfold TI; kernel_rfl
theorem zo60 : zeroOf Try.prog 60 = some (pl [hL Hash.zero, hL Hash.zero]).toArray := by kernel_rfl
theorem pl60 : placesOf Try.prog 60 = some ([hL Hash.zero, hL Hash.zero].zipIdx.map fun p => (offP [hL Hash.zero, hL Hash.zero] p.2, p.1.length)) := by kernel_rfl
theorem ti69 : TI Try.prog 69 64 64 (.agg (pl [hL Hash.zero, hL Hash.zero]).toArray) := by unfold TI; kernel_rfl
theorem zo69 : zeroOf Try.prog 69 = some (pl [hL Hash.zero, hL Hash.zero]).toArray := by kernel_rfl
theorem ti72 : TI Try.prog 72 1 8 (Value.int .u64 0) := by unfold TI; kernel_rfl
theorem ti74 : TI Try.prog 74 1 2 (Value.int .u16 0) := by unfold TI; kernel_rfl
theorem ti75 : TI Try.prog 75 1 24 (Value.slice none 0 0) := by unfold TI; kernel_rfl
theorem ti77 : TI Try.prog 77 66 96 (.agg (pl [[Value.slice none 0 0], [Value.int .i64 0], pl (itemP Item.zero)]).toArray) := by unfold TI; kernel_rfl
theorem zo77 : zeroOf Try.prog 77 = some (pl [[Value.slice none 0 0], [Value.int .i64 0], pl (itemP Item.zero)]).toArray := by kernel_rfl
theorem pl77 : placesOf Try.prog 77 = some ([[Value.slice none 0 0], [Value.int .i64 0], pl (itemP Item.zero)].zipIdx.map fun p => (offP [[Value.slice none 0 0], [Value.int .i64 0], pl (itemP Item.zero)] p.2, p.1.length)) := by kernel_rfl
theorem ti82 : TI Try.prog 82 1 24 (Value.slice none 0 0) := by unfold TI; kernel_rfl
theorem ti89 : TI Try.prog 89 1 24 (Value.slice none 0 0) := by unfold TI; kernel_rfl
theorem ti98 : TI Try.prog 98 132 192 (.agg (pl [pl [[Value.slice none 0 0], [Value.int .i64 0], pl (itemP Item.zero)], pl [[Value.slice none 0 0], [Value.int .i64 0], pl (itemP Item.zero)]]).toArray) := by unfold TI; kernel_rfl
theorem zo98 : zeroOf Try.prog 98 = some (pl [pl [[Value.slice none 0 0], [Value.int .i64 0], pl (itemP Item.zero)], pl [[Value.slice none 0 0], [Value.int .i64 0], pl (itemP Item.zero)]]).toArray := by kernel_rfl
theorem ti99 : TI Try.prog 99 1 24 (Value.slice none 0 0) := by unfold TI; kernel_rfl
theorem ti105 : TI Try.prog 105 1 24 (Value.slice none 0 0) := by unfold TI; kernel_rfl
theorem ti108 : TI Try.prog 108 3 32 (.agg (pl (entryP Entry.zero)).toArray) := by unfold TI; kernel_rfl
theorem zo108 : zeroOf Try.prog 108 = some (pl [[Value.string ⟨#[]⟩], [Value.int .i64 0], [Value.int .u64 0]]).toArray := by kernel_rfl
theorem pl108 : placesOf Try.prog 108 = some ([[Value.string ⟨#[]⟩], [Value.int .i64 0], [Value.int .u64 0]].zipIdx.map fun p => (offP [[Value.string ⟨#[]⟩], [Value.int .i64 0], [Value.int .u64 0]] p.2, p.1.length)) := by kernel_rfl
theorem ti110 : TI Try.prog 110 4 40 (.agg (pl (knownP Known.zero)).toArray) := by unfold TI; kernel_rfl
theorem zo110 : zeroOf Try.prog 110 = some (pl [pl (entryP Entry.zero), [Value.int .i64 0]]).toArray := by kernel_rfl
theorem pl110 : placesOf Try.prog 110 = some ([pl (entryP Entry.zero), [Value.int .i64 0]].zipIdx.map fun p => (offP [pl (entryP Entry.zero), [Value.int .i64 0]] p.2, p.1.length)) := by kernel_rfl
theorem ti115 : TI Try.prog 115 70 128 (.agg (pl [pl (headP Head.zero), [Value.slice none 0 0]]).toArray) := by unfold TI; kernel_rfl
theorem zo115 : zeroOf Try.prog 115 = some (pl [pl (headP Head.zero), [Value.slice none 0 0]]).toArray := by kernel_rfl
theorem pl115 : placesOf Try.prog 115 = some ([pl (headP Head.zero), [Value.slice none 0 0]].zipIdx.map fun p => (offP [pl (headP Head.zero), [Value.slice none 0 0]] p.2, p.1.length)) := by kernel_rfl
theorem ti122 : TI Try.prog 122 1 8 (Value.pointer none) := by unfold TI; kernel_rfl
theorem ti131 : TI Try.prog 131 1 8 (Value.nilFunc) := by unfold TI; kernel_rfl
theorem ti134 : TI Try.prog 134 1 8 (Value.nilFunc) := by unfold TI; kernel_rfl
theorem ti146 : TI Try.prog 146 1 8 (Value.pointer none) := by unfold TI; kernel_rfl
theorem ti148 : TI Try.prog 148 2 32 (.agg (pl [[Value.slice none 0 0], [Value.int .i64 0]]).toArray) := by unfold TI; kernel_rfl
theorem zo148 : zeroOf Try.prog 148 = some (pl [[Value.slice none 0 0], [Value.int .i64 0]]).toArray := by kernel_rfl
theorem pl148 : placesOf Try.prog 148 = some ([[Value.slice none 0 0], [Value.int .i64 0]].zipIdx.map fun p => (offP [[Value.slice none 0 0], [Value.int .i64 0]] p.2, p.1.length)) := by kernel_rfl
theorem ti150 : TI Try.prog 150 5 40 (.agg (pl (stP St.zero)).toArray) := by unfold TI; kernel_rfl
theorem zo150 : zeroOf Try.prog 150 = some (pl [[Value.int .u64 0], [Value.int .u64 0], [Value.int .u64 0], [Value.int .u64 0], [Value.int .u64 0]]).toArray := by kernel_rfl
theorem ti155 : TI Try.prog 155 1 24 (Value.slice none 0 0) := by unfold TI; kernel_rfl
theorem ti162 : TI Try.prog 162 2 32 (.agg (pl [[Value.slice none 0 0], [Value.int .i64 0]]).toArray) := by unfold TI; kernel_rfl
theorem zo162 : zeroOf Try.prog 162 = some (pl [[Value.slice none 0 0], [Value.int .i64 0]]).toArray := by kernel_rfl
theorem pl162 : placesOf Try.prog 162 = some ([[Value.slice none 0 0], [Value.int .i64 0]].zipIdx.map fun p => (offP [[Value.slice none 0 0], [Value.int .i64 0]] p.2, p.1.length)) := by kernel_rfl
theorem ti164 : TI Try.prog 164 1 24 (Value.slice none 0 0) := by unfold TI; kernel_rfl
theorem ti170 : TI Try.prog 170 1 8 (Value.nilFunc) := by unfold TI; kernel_rfl
theorem ti188 : TI Try.prog 188 12 96 (.agg (pl [[Value.int .u64 0], [Value.int .u64 0], [Value.int .u64 0], [Value.int .u64 0], [Value.int .u64 0], [Value.int .u64 0], [Value.int .u64 0], [Value.int .u64 0], [Value.int .u64 0], [Value.int .u64 0], [Value.int .u64 0], [Value.int .u64 0]]).toArray) := by unfold TI; kernel_rfl
theorem zo188 : zeroOf Try.prog 188 = some (pl [[Value.int .u64 0], [Value.int .u64 0], [Value.int .u64 0], [Value.int .u64 0], [Value.int .u64 0], [Value.int .u64 0], [Value.int .u64 0], [Value.int .u64 0], [Value.int .u64 0], [Value.int .u64 0], [Value.int .u64 0], [Value.int .u64 0]]).toArray := by kernel_rfl
theorem ti196 : TI Try.prog 196 1 16 (Value.nilIface) := by unfold TI; kernel_rfl
theorem ok3 : Fun Try.prog 3 := ⟨_, Try.func3, by kernel_rfl, rfl⟩
theorem ok4 : Fun Try.prog 4 := ⟨_, Try.func4, by kernel_rfl, rfl⟩
theorem ok5 : Fun Try.prog 5 := ⟨_, Try.func5, by kernel_rfl, rfl⟩
theorem ok6 : Fun Try.prog 6 := ⟨_, Try.func6, by kernel_rfl, rfl⟩
theorem ok7 : Fun Try.prog 7 := ⟨_, Try.func7, by kernel_rfl, rfl⟩
theorem ok8 : Fun Try.prog 8 := ⟨_, Try.func8, by kernel_rfl, rfl⟩
theorem ok9 : Fun Try.prog 9 := ⟨_, Try.func9, by kernel_rfl, rfl⟩
theorem ok10 : Fun Try.prog 10 := ⟨_, Try.func10, by kernel_rfl, rfl⟩
theorem ok11 : Fun Try.prog 11 := ⟨_, Try.func11, by kernel_rfl, rfl⟩
theorem ok12 : Fun Try.prog 12 := ⟨_, Try.func12, by kernel_rfl, rfl⟩
theorem ok13 : Fun Try.prog 13 := ⟨_, Try.func13, by kernel_rfl, rfl⟩
theorem ok14 : Fun Try.prog 14 := ⟨_, Try.func14, by kernel_rfl, rfl⟩
theorem ok15 : Fun Try.prog 15 := ⟨_, Try.func15, by kernel_rfl, rfl⟩
theorem ok16 : Fun Try.prog 16 := ⟨_, Try.func16, by kernel_rfl, rfl⟩
theorem ok17 : Fun Try.prog 17 := ⟨_, Try.func17, by kernel_rfl, rfl⟩
theorem ok18 : Fun Try.prog 18 := ⟨_, Try.func18, by kernel_rfl, rfl⟩
theorem ok19 : Fun Try.prog 19 := ⟨_, Try.func19, by kernel_rfl, rfl⟩
theorem ok20 : Fun Try.prog 20 := ⟨_, Try.func20, by kernel_rfl, rfl⟩
theorem ok21 : Fun Try.prog 21 := ⟨_, Try.func21, by kernel_rfl, rfl⟩
theorem ok22 : Fun Try.prog 22 := ⟨_, Try.func22, by kernel_rfl, rfl⟩
theorem ok23 : Fun Try.prog 23 := ⟨_, Try.func23, by kernel_rfl, rfl⟩
theorem ok24 : Fun Try.prog 24 := ⟨_, Try.func24, by kernel_rfl, rfl⟩
theorem ok25 : Fun Try.prog 25 := ⟨_, Try.func25, by kernel_rfl, rfl⟩
theorem ok26 : Fun Try.prog 26 := ⟨_, Try.func26, by kernel_rfl, rfl⟩
theorem ok27 : Fun Try.prog 27 := ⟨_, Try.func27, by kernel_rfl, rfl⟩
theorem ok28 : Fun Try.prog 28 := ⟨_, Try.func28, by kernel_rfl, rfl⟩
theorem ok29 : Fun Try.prog 29 := ⟨_, Try.func29, by kernel_rfl, rfl⟩
theorem ok30 : Fun Try.prog 30 := ⟨_, Try.func30, by kernel_rfl, rfl⟩
theorem ok31 : Fun Try.prog 31 := ⟨_, Try.func31, by kernel_rfl, rfl⟩
theorem ok32 : Fun Try.prog 32 := ⟨_, Try.func32, by kernel_rfl, rfl⟩
theorem ok33 : Fun Try.prog 33 := ⟨_, Try.func33, by kernel_rfl, rfl⟩
theorem ok34 : Fun Try.prog 34 := ⟨_, Try.func34, by kernel_rfl, rfl⟩
theorem ok35 : Fun Try.prog 35 := ⟨_, Try.func35, by kernel_rfl, rfl⟩
theorem ok36 : Fun Try.prog 36 := ⟨_, Try.func36, by kernel_rfl, rfl⟩
theorem ok37 : Fun Try.prog 37 := ⟨_, Try.func37, by kernel_rfl, rfl⟩
theorem ok38 : Fun Try.prog 38 := ⟨_, Try.func38, by kernel_rfl, rfl⟩
theorem ok39 : Fun Try.prog 39 := ⟨_, Try.func39, by kernel_rfl, rfl⟩
theorem ok40 : Fun Try.prog 40 := ⟨_, Try.func40, by kernel_rfl, rfl⟩
theorem ok41 : Fun Try.prog 41 := ⟨_, Try.func41, by kernel_rfl, rfl⟩
theorem ok42 : Fun Try.prog 42 := ⟨_, Try.func42, by kernel_rfl, rfl⟩
theorem ok43 : Fun Try.prog 43 := ⟨_, Try.func43, by kernel_rfl, rfl⟩
theorem ok44 : Fun Try.prog 44 := ⟨_, Try.func44, by kernel_rfl, rfl⟩
theorem ok45 : Fun Try.prog 45 := ⟨_, Try.func45, by kernel_rfl, rfl⟩
theorem ok46 : Fun Try.prog 46 := ⟨_, Try.func46, by kernel_rfl, rfl⟩
theorem ok47 : Fun Try.prog 47 := ⟨_, Try.func47, by kernel_rfl, rfl⟩
theorem ok48 : Fun Try.prog 48 := ⟨_, Try.func48, by kernel_rfl, rfl⟩
theorem ok49 : Fun Try.prog 49 := ⟨_, Try.func49, by kernel_rfl, rfl⟩
theorem ok50 : Fun Try.prog 50 := ⟨_, Try.func50, by kernel_rfl, rfl⟩
theorem ok51 : Fun Try.prog 51 := ⟨_, Try.func51, by kernel_rfl, rfl⟩
theorem ok52 : Fun Try.prog 52 := ⟨_, Try.func52, by kernel_rfl, rfl⟩
theorem ok53 : Fun Try.prog 53 := ⟨_, Try.func53, by kernel_rfl, rfl⟩
theorem ok54 : Fun Try.prog 54 := ⟨_, Try.func54, by kernel_rfl, rfl⟩
theorem ok55 : Fun Try.prog 55 := ⟨_, Try.func55, by kernel_rfl, rfl⟩
theorem ok56 : Fun Try.prog 56 := ⟨_, Try.func56, by kernel_rfl, rfl⟩
theorem ok57 : Fun Try.prog 57 := ⟨_, Try.func57, by kernel_rfl, rfl⟩
theorem ok58 : Fun Try.prog 58 := ⟨_, Try.func58, by kernel_rfl, rfl⟩
theorem ok59 : Fun Try.prog 59 := ⟨_, Try.func59, by kernel_rfl, rfl⟩
theorem ok60 : Fun Try.prog 60 := ⟨_, Try.func60, by kernel_rfl, rfl⟩
theorem ok61 : Fun Try.prog 61 := ⟨_, Try.func61, by kernel_rfl, rfl⟩
theorem ok62 : Fun Try.prog 62 := ⟨_, Try.func62, by kernel_rfl, rfl⟩
theorem ok63 : Fun Try.prog 63 := ⟨_, Try.func63, by kernel_rfl, rfl⟩
theorem ok64 : Fun Try.prog 64 := ⟨_, Try.func64, by kernel_rfl, rfl⟩
theorem ok65 : Fun Try.prog 65 := ⟨_, Try.func65, by kernel_rfl, rfl⟩
theorem ok66 : Fun Try.prog 66 := ⟨_, Try.func66, by kernel_rfl, rfl⟩
theorem ok67 : Fun Try.prog 67 := ⟨_, Try.func67, by kernel_rfl, rfl⟩
theorem ok68 : Fun Try.prog 68 := ⟨_, Try.func68, by kernel_rfl, rfl⟩
theorem ok69 : Fun Try.prog 69 := ⟨_, Try.func69, by kernel_rfl, rfl⟩
theorem ok70 : Fun Try.prog 70 := ⟨_, Try.func70, by kernel_rfl, rfl⟩
theorem ok71 : Fun Try.prog 71 := ⟨_, Try.func71, by kernel_rfl, rfl⟩
theorem ok72 : Fun Try.prog 72 := ⟨_, Try.func72, by kernel_rfl, rfl⟩
theorem ok73 : Fun Try.prog 73 := ⟨_, Try.func73, by kernel_rfl, rfl⟩
theorem ok74 : Fun Try.prog 74 := ⟨_, Try.func74, by kernel_rfl, rfl⟩
theorem ok75 : Fun Try.prog 75 := ⟨_, Try.func75, by kernel_rfl, rfl⟩
theorem ok76 : Fun Try.prog 76 := ⟨_, Try.func76, by kernel_rfl, rfl⟩
theorem ok77 : Fun Try.prog 77 := ⟨_, Try.func77, by kernel_rfl, rfl⟩
theorem ok78 : Fun Try.prog 78 := ⟨_, Try.func78, by kernel_rfl, rfl⟩
theorem ok79 : Fun Try.prog 79 := ⟨_, Try.func79, by kernel_rfl, rfl⟩
theorem ok80 : Fun Try.prog 80 := ⟨_, Try.func80, by kernel_rfl, rfl⟩
theorem ok81 : Fun Try.prog 81 := ⟨_, Try.func81, by kernel_rfl, rfl⟩
theorem ok82 : Fun Try.prog 82 := ⟨_, Try.func82, by kernel_rfl, rfl⟩
theorem ok83 : Fun Try.prog 83 := ⟨_, Try.func83, by kernel_rfl, rfl⟩
theorem ok84 : Fun Try.prog 84 := ⟨_, Try.func84, by kernel_rfl, rfl⟩
theorem ok85 : Fun Try.prog 85 := ⟨_, Try.func85, by kernel_rfl, rfl⟩
theorem ok86 : Fun Try.prog 86 := ⟨_, Try.func86, by kernel_rfl, rfl⟩
theorem ok87 : Fun Try.prog 87 := ⟨_, Try.func87, by kernel_rfl, rfl⟩
theorem ok88 : Fun Try.prog 88 := ⟨_, Try.func88, by kernel_rfl, rfl⟩
theorem ok89 : Fun Try.prog 89 := ⟨_, Try.func89, by kernel_rfl, rfl⟩
theorem ok90 : Fun Try.prog 90 := ⟨_, Try.func90, by kernel_rfl, rfl⟩
theorem ok91 : Fun Try.prog 91 := ⟨_, Try.func91, by kernel_rfl, rfl⟩
theorem ok92 : Fun Try.prog 92 := ⟨_, Try.func92, by kernel_rfl, rfl⟩
theorem ok93 : Fun Try.prog 93 := ⟨_, Try.func93, by kernel_rfl, rfl⟩
theorem ok94 : Fun Try.prog 94 := ⟨_, Try.func94, by kernel_rfl, rfl⟩
theorem ok95 : Fun Try.prog 95 := ⟨_, Try.func95, by kernel_rfl, rfl⟩
theorem ok96 : Fun Try.prog 96 := ⟨_, Try.func96, by kernel_rfl, rfl⟩
theorem ok97 : Fun Try.prog 97 := ⟨_, Try.func97, by kernel_rfl, rfl⟩
theorem ok98 : Fun Try.prog 98 := ⟨_, Try.func98, by kernel_rfl, rfl⟩
theorem ok99 : Fun Try.prog 99 := ⟨_, Try.func99, by kernel_rfl, rfl⟩
theorem ok100 : Fun Try.prog 100 := ⟨_, Try.func100, by kernel_rfl, rfl⟩
theorem ok101 : Fun Try.prog 101 := ⟨_, Try.func101, by kernel_rfl, rfl⟩
theorem ok102 : Fun Try.prog 102 := ⟨_, Try.func102, by kernel_rfl, rfl⟩
theorem ok103 : Fun Try.prog 103 := ⟨_, Try.func103, by kernel_rfl, rfl⟩
theorem ok104 : Fun Try.prog 104 := ⟨_, Try.func104, by kernel_rfl, rfl⟩
theorem ok105 : Fun Try.prog 105 := ⟨_, Try.func105, by kernel_rfl, rfl⟩
theorem ok106 : Fun Try.prog 106 := ⟨_, Try.func106, by kernel_rfl, rfl⟩
theorem ok107 : Fun Try.prog 107 := ⟨_, Try.func107, by kernel_rfl, rfl⟩
theorem ok108 : Fun Try.prog 108 := ⟨_, Try.func108, by kernel_rfl, rfl⟩
theorem ok109 : Fun Try.prog 109 := ⟨_, Try.func109, by kernel_rfl, rfl⟩
theorem ok110 : Fun Try.prog 110 := ⟨_, Try.func110, by kernel_rfl, rfl⟩
theorem ok111 : Fun Try.prog 111 := ⟨_, Try.func111, by kernel_rfl, rfl⟩
theorem ok112 : Fun Try.prog 112 := ⟨_, Try.func112, by kernel_rfl, rfl⟩
theorem ok113 : Fun Try.prog 113 := ⟨_, Try.func113, by kernel_rfl, rfl⟩
theorem ok114 : Fun Try.prog 114 := ⟨_, Try.func114, by kernel_rfl, rfl⟩
theorem ok115 : Fun Try.prog 115 := ⟨_, Try.func115, by kernel_rfl, rfl⟩
theorem ok116 : Fun Try.prog 116 := ⟨_, Try.func116, by kernel_rfl, rfl⟩
theorem ok117 : Fun Try.prog 117 := ⟨_, Try.func117, by kernel_rfl, rfl⟩
theorem ok118 : Fun Try.prog 118 := ⟨_, Try.func118, by kernel_rfl, rfl⟩
theorem ok119 : Fun Try.prog 119 := ⟨_, Try.func119, by kernel_rfl, rfl⟩
theorem ok120 : Fun Try.prog 120 := ⟨_, Try.func120, by kernel_rfl, rfl⟩
theorem ok121 : Fun Try.prog 121 := ⟨_, Try.func121, by kernel_rfl, rfl⟩
theorem ok122 : Fun Try.prog 122 := ⟨_, Try.func122, by kernel_rfl, rfl⟩
theorem ok123 : Fun Try.prog 123 := ⟨_, Try.func123, by kernel_rfl, rfl⟩
theorem ok124 : Fun Try.prog 124 := ⟨_, Try.func124, by kernel_rfl, rfl⟩
theorem ok125 : Fun Try.prog 125 := ⟨_, Try.func125, by kernel_rfl, rfl⟩
theorem ok126 : Fun Try.prog 126 := ⟨_, Try.func126, by kernel_rfl, rfl⟩
theorem ok127 : Fun Try.prog 127 := ⟨_, Try.func127, by kernel_rfl, rfl⟩
theorem ok128 : Fun Try.prog 128 := ⟨_, Try.func128, by kernel_rfl, rfl⟩
theorem ok129 : Fun Try.prog 129 := ⟨_, Try.func129, by kernel_rfl, rfl⟩
theorem ok130 : Fun Try.prog 130 := ⟨_, Try.func130, by kernel_rfl, rfl⟩
theorem ok131 : Fun Try.prog 131 := ⟨_, Try.func131, by kernel_rfl, rfl⟩
theorem ok132 : Fun Try.prog 132 := ⟨_, Try.func132, by kernel_rfl, rfl⟩
theorem ok133 : Fun Try.prog 133 := ⟨_, Try.func133, by kernel_rfl, rfl⟩
theorem ok134 : Fun Try.prog 134 := ⟨_, Try.func134, by kernel_rfl, rfl⟩
theorem ok135 : Fun Try.prog 135 := ⟨_, Try.func135, by kernel_rfl, rfl⟩
theorem ok136 : Fun Try.prog 136 := ⟨_, Try.func136, by kernel_rfl, rfl⟩
theorem ok137 : Fun Try.prog 137 := ⟨_, Try.func137, by kernel_rfl, rfl⟩
theorem ok138 : Fun Try.prog 138 := ⟨_, Try.func138, by kernel_rfl, rfl⟩
theorem ok139 : Fun Try.prog 139 := ⟨_, Try.func139, by kernel_rfl, rfl⟩
theorem ok140 : Fun Try.prog 140 := ⟨_, Try.func140, by kernel_rfl, rfl⟩
theorem ok141 : Fun Try.prog 141 := ⟨_, Try.func141, by kernel_rfl, rfl⟩
theorem ok142 : Fun Try.prog 142 := ⟨_, Try.func142, by kernel_rfl, rfl⟩
theorem ok143 : Fun Try.prog 143 := ⟨_, Try.func143, by kernel_rfl, rfl⟩
theorem ok144 : Fun Try.prog 144 := ⟨_, Try.func144, by kernel_rfl, rfl⟩
theorem ok145 : Fun Try.prog 145 := ⟨_, Try.func145, by kernel_rfl, rfl⟩
theorem ok146 : Fun Try.prog 146 := ⟨_, Try.func146, by kernel_rfl, rfl⟩
theorem ok147 : Fun Try.prog 147 := ⟨_, Try.func147, by kernel_rfl, rfl⟩
theorem ok148 : Fun Try.prog 148 := ⟨_, Try.func148, by kernel_rfl, rfl⟩
theorem ok149 : Fun Try.prog 149 := ⟨_, Try.func149, by kernel_rfl, rfl⟩
theorem ok150 : Fun Try.prog 150 := ⟨_, Try.func150, by kernel_rfl, rfl⟩
theorem ok151 : Fun Try.prog 151 := ⟨_, Try.func151, by kernel_rfl, rfl⟩
theorem ok152 : Fun Try.prog 152 := ⟨_, Try.func152, by kernel_rfl, rfl⟩
theorem ok153 : Fun Try.prog 153 := ⟨_, Try.func153, by kernel_rfl, rfl⟩
theorem ok154 : Fun Try.prog 154 := ⟨_, Try.func154, by kernel_rfl, rfl⟩
theorem ok155 : Fun Try.prog 155 := ⟨_, Try.func155, by kernel_rfl, rfl⟩
theorem ok157 : Fun Try.prog 157 := ⟨_, Try.func157, by kernel_rfl, rfl⟩
theorem ok158 : Fun Try.prog 158 := ⟨_, Try.func158, by kernel_rfl, rfl⟩
theorem ok159 : Fun Try.prog 159 := ⟨_, Try.func159, by kernel_rfl, rfl⟩
theorem ok160 : Fun Try.prog 160 := ⟨_, Try.func160, by kernel_rfl, rfl⟩
theorem ok161 : Fun Try.prog 161 := ⟨_, Try.func161, by kernel_rfl, rfl⟩
theorem ok162 : Fun Try.prog 162 := ⟨_, Try.func162, by kernel_rfl, rfl⟩
theorem ok163 : Fun Try.prog 163 := ⟨_, Try.func163, by kernel_rfl, rfl⟩
theorem ok164 : Fun Try.prog 164 := ⟨_, Try.func164, by kernel_rfl, rfl⟩
theorem ok165 : Fun Try.prog 165 := ⟨_, Try.func165, by kernel_rfl, rfl⟩
theorem ok166 : Fun Try.prog 166 := ⟨_, Try.func166, by kernel_rfl, rfl⟩
theorem ok167 : Fun Try.prog 167 := ⟨_, Try.func167, by kernel_rfl, rfl⟩
theorem ok168 : Fun Try.prog 168 := ⟨_, Try.func168, by kernel_rfl, rfl⟩
theorem ok169 : Fun Try.prog 169 := ⟨_, Try.func169, by kernel_rfl, rfl⟩
theorem ok170 : Fun Try.prog 170 := ⟨_, Try.func170, by kernel_rfl, rfl⟩
theorem ok171 : Fun Try.prog 171 := ⟨_, Try.func171, by kernel_rfl, rfl⟩
theorem ok172 : Fun Try.prog 172 := ⟨_, Try.func172, by kernel_rfl, rfl⟩
theorem ok173 : Fun Try.prog 173 := ⟨_, Try.func173, by kernel_rfl, rfl⟩
theorem eqv23 (x y : Hash) : EqV Try.prog 23 2 (.agg (hL x).toArray) (.agg (hL y).toArray) (decide (x = y)) := EqV_hash Try.underlying23 Try.underlying5 ti5
theorem gd23 : Try.prog.eqGuardType Try.prog.depth 23 = false := by kernel_rfl
theorem eqv26 (x y : Sig) : EqV Try.prog 26 2 (.agg (pl (sigP x)).toArray) (.agg (pl (sigP y)).toArray) (eqSig x y) := (EqV_struct (D := 1) Try.underlying26 (by kernel_rfl) (EqF_cons rfl (part_plain Try.underlying24 rfl (k := 0) rfl (by first | rfl | simp [offP, sigP])) (part_plain Try.underlying24 rfl (k := 0) rfl (by first | rfl | simp [offP, sigP])) ((EqV_int Try.underlying24).mono (by decide)) (EqF_cons rfl (part_plain Try.underlying24 rfl (k := 1) rfl (by first | rfl | simp [offP, sigP])) (part_plain Try.underlying24 rfl (k := 1) rfl (by first | rfl | simp [offP, sigP])) ((EqV_int Try.underlying24).mono (by decide)) EqF_nil))).eq (eqSig_def x y)
theorem gd26 : Try.prog.eqGuardType Try.prog.depth 26 = false := by kernel_rfl
theorem eqv28 (x y : Head) : EqV Try.prog 28 3 (.agg (pl (headP x)).toArray) (.agg (pl (headP y)).toArray) (eqHead x y) := (EqV_struct (D := 2) Try.underlying28 (by kernel_rfl) (EqF_cons rfl (part_plain Try.underlying3 rfl (k := 0) rfl (by first | rfl | simp [offP, headP])) (part_plain Try.underlying3 rfl (k := 0) rfl (by first | rfl | simp [offP, headP])) ((EqV_int Try.underlying3).mono (by decide)) (EqF_cons rfl (part_plain Try.underlying2 rfl (k := 1) rfl (by first | rfl | simp [offP, headP])) (part_plain Try.underlying2 rfl (k := 1) rfl (by first | rfl | simp [offP, headP])) ((EqV_int Try.underlying2).mono (by decide)) (EqF_cons rfl (part_plain Try.underlying3 rfl (k := 2) rfl (by first | rfl | simp [offP, headP])) (part_plain Try.underlying3 rfl (k := 2) rfl (by first | rfl | simp [offP, headP])) ((EqV_int Try.underlying3).mono (by decide)) (EqF_cons rfl (part_row Try.underlying23 rfl ti23 (k := 3) rfl (by simp [offP, headP]) (by simp)) (part_row Try.underlying23 rfl ti23 (k := 3) rfl (by simp [offP, headP]) (by simp)) ((eqv23 _ _).mono (by decide)) (EqF_cons rfl (part_row Try.underlying23 rfl ti23 (k := 4) rfl (by simp [offP, headP]) (by simp)) (part_row Try.underlying23 rfl ti23 (k := 4) rfl (by simp [offP, headP]) (by simp)) ((eqv23 _ _).mono (by decide)) (EqF_cons rfl (part_rowS Try.underlying26 rfl ti26 (k := 5) (qs := sigP _) (by simp [headP, sigP]) (by simp [offP, headP]) (sigP_len _)) (part_rowS Try.underlying26 rfl ti26 (k := 5) (qs := sigP _) (by simp [headP, sigP]) (by simp [offP, headP]) (sigP_len _)) ((eqv26 _ _).mono (by decide)) EqF_nil))))))).eq (eqHead_def x y)
theorem gd28 : Try.prog.eqGuardType Try.prog.depth 28 = false := by kernel_rfl
theorem eqv60 (x y : Item) : EqV Try.prog 60 3 (.agg (pl (itemP x)).toArray) (.agg (pl (itemP y)).toArray) (eqItem x y) := (EqV_struct (D := 2) Try.underlying60 (by kernel_rfl) (EqF_cons rfl (part_row Try.underlying23 rfl ti23 (k := 0) rfl (by simp [offP, itemP]) (by simp)) (part_row Try.underlying23 rfl ti23 (k := 0) rfl (by simp [offP, itemP]) (by simp)) ((eqv23 _ _).mono (by decide)) (EqF_cons rfl (part_row Try.underlying23 rfl ti23 (k := 1) rfl (by simp [offP, itemP]) (by simp)) (part_row Try.underlying23 rfl ti23 (k := 1) rfl (by simp [offP, itemP]) (by simp)) ((eqv23 _ _).mono (by decide)) EqF_nil))).eq (eqItem_def x y)
theorem gd60 : Try.prog.eqGuardType Try.prog.depth 60 = false := by kernel_rfl
end Go.Proofs.Ytkckakfkeooepaa
