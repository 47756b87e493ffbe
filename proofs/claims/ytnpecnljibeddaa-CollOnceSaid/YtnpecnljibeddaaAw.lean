/- awake: two arguments at most. -/
import Derived.Test.YtnpecnljibeddaaCw
namespace Go.Proofs.Ytnpecnljibeddaa
open Go.RowKit
attribute [local go_sem ↓] Go.wp_at_zero Go.wp_at_succ
set_option linter.unusedVariables false
set_option linter.unusedSimpArgs false

set_option maxHeartbeats 8000000 in
theorem awake_any (w : World) : Calls Try.prog 9 #[] w fun e w' => e = .returned (.bool true) ∧ Below w.heap.size w w' := by
  go_enter Try.func9, Try.ntmps9
  go_wp2_with fail
  refine (new_yes (win := 10) (most := 2) ⟨by decide, by decide, by decide, by decide⟩ _).mono ?_
  rintro e_ w1 ⟨g, rfl, hi, hg, hd⟩
  have CW1 := Lib.hid (CW.start hi (Upd.refl _ _) hg hd)
  clear hi hg hd
  go_wp2_with fail
  have CWx := CW1
  clear CW1
  refine (cadd_to (win := 10) (most := 2) (s := none) (s' := some (([7], [(1, 0)]), 15)) (now := 5) (id := 1) (arg := 7) (op := true) (rd := false) (due := 15) (b := ([], [])) (n := 0) (m := 0) rfl rfl rfl (w64_n ⟨rfl, rfl⟩) (fun _ => w64_n ⟨rfl, rfl⟩) (by decide) (by decide) CWx.out.isC).mono ?_
  rintro e_ w2 ⟨p2, A2, c2, M2, d2, rfl, hp⟩
  have CW2 := Lib.hid (CWx.out.next hp)
  clear hp CWx
  go_wp2_with fail
  have CWx := Lib.hid (CW2.out.keep0 ((Upd.refl (fun _ => False) w2).alloc (.cells #[.bool true, .bool false, .int .u64 15, .slice A2 0 c2, .slice M2 0 d2] 42)))
  have BAx := Lib.hid (Blk.new w2 #[.bool true, .bool false, .int .u64 15, .slice A2 0 c2, .slice M2 0 d2] 42)
  clear CW2
  refine (cadd_to (win := 10) (most := 2) (s := some (([7], [(1, 0)]), 15)) (s' := some (([7], [(1, 0), (2, 0)]), 15)) (now := 6) (id := 2) (arg := 7) (op := false) (rd := false) (due := 0) (b := ([], [])) (n := 0) (m := 0) rfl rfl rfl (w64_n ⟨rfl, rfl⟩) (fun _ => w64_n ⟨rfl, rfl⟩) (by decide) (by decide) CWx.out.isC).mono ?_
  rintro e_ w3 ⟨p3, A3, c3, M3, d3, rfl, hp⟩
  have CW3 := Lib.hid (CWx.out.next hp)
  have BA3 := Lib.hid (CWx.out.blk hp BAx.out (by decide) (by decide))
  clear hp CWx BAx
  have BA0_ : w3.cell? ⟨w2.heap.size, 0, none⟩ = some (.bool true) := BA3.out.cell 0
  have BA1_ : w3.cell? ⟨w2.heap.size, 1, none⟩ = some (.bool false) := BA3.out.cell 1
  have BA2_ : w3.cell? ⟨w2.heap.size, 2, none⟩ = some (.int .u64 15) := BA3.out.cell 2
  have BA3_ : w3.cell? ⟨w2.heap.size, 3, none⟩ = some (.slice A2 0 c2) := BA3.out.cell 3
  have BA4_ : w3.cell? ⟨w2.heap.size, 4, none⟩ = some (.slice M2 0 d2) := BA3.out.cell 4
  have BAl_ := BA3.out.lt
  go_wp2_with fail
  clear BA0_ BA1_ BA2_ BA3_ BA4_ BAl_
  have CWx := Lib.hid (CW3.out.keep0 ((Upd.refl (fun _ => False) w3).alloc (.cells #[.bool false, .bool false, .int .u64 0, .slice A3 0 c3, .slice M3 0 d3] 42)))
  have BAx := Lib.hid (BA3.out.alloc (.cells #[.bool false, .bool false, .int .u64 0, .slice A3 0 c3, .slice M3 0 d3] 42))
  have BBx := Lib.hid (Blk.new w3 #[.bool false, .bool false, .int .u64 0, .slice A3 0 c3, .slice M3 0 d3] 42)
  clear CW3 BA3
  refine (cexp_to (win := 10) (most := 2) (s := some (([7], [(1, 0), (2, 0)]), 15)) (s' := some (([7], [(1, 0), (2, 0)]), 15)) (now := 14) (is := false) (b := ([], [])) (n := 0) (m := 0) rfl rfl rfl CWx.out.isC).mono ?_
  rintro e_ w4 ⟨p4, A4, c4, M4, d4, rfl, hp⟩
  have CW4 := Lib.hid (CWx.out.next hp)
  have BA4 := Lib.hid (CWx.out.blk hp BAx.out (by decide) (by decide))
  have BB4 := Lib.hid (CWx.out.blk hp BBx.out (by decide) (by decide))
  clear hp CWx BAx BBx
  have BA0_ : w4.cell? ⟨w2.heap.size, 0, none⟩ = some (.bool true) := BA4.out.cell 0
  have BA1_ : w4.cell? ⟨w2.heap.size, 1, none⟩ = some (.bool false) := BA4.out.cell 1
  have BA2_ : w4.cell? ⟨w2.heap.size, 2, none⟩ = some (.int .u64 15) := BA4.out.cell 2
  have BA3_ : w4.cell? ⟨w2.heap.size, 3, none⟩ = some (.slice A2 0 c2) := BA4.out.cell 3
  have BA4_ : w4.cell? ⟨w2.heap.size, 4, none⟩ = some (.slice M2 0 d2) := BA4.out.cell 4
  have BAl_ := BA4.out.lt
  have BB0_ : w4.cell? ⟨w3.heap.size, 0, none⟩ = some (.bool false) := BB4.out.cell 0
  have BB1_ : w4.cell? ⟨w3.heap.size, 1, none⟩ = some (.bool false) := BB4.out.cell 1
  have BB2_ : w4.cell? ⟨w3.heap.size, 2, none⟩ = some (.int .u64 0) := BB4.out.cell 2
  have BB3_ : w4.cell? ⟨w3.heap.size, 3, none⟩ = some (.slice A3 0 c3) := BB4.out.cell 3
  have BB4_ : w4.cell? ⟨w3.heap.size, 4, none⟩ = some (.slice M3 0 d3) := BB4.out.cell 4
  have BBl_ := BB4.out.lt
  go_wp2_with fail
  clear BA0_ BA1_ BA2_ BA3_ BA4_ BAl_ BB0_ BB1_ BB2_ BB3_ BB4_ BBl_
  have CWx := Lib.hid (CW4.out.keep0 ((Upd.refl (fun _ => False) w4).alloc (.cells #[.slice A4 0 c4, .slice M4 0 d4] 40)))
  have BAx := Lib.hid (BA4.out.alloc (.cells #[.slice A4 0 c4, .slice M4 0 d4] 40))
  have BBx := Lib.hid (BB4.out.alloc (.cells #[.slice A4 0 c4, .slice M4 0 d4] 40))
  have BCx := Lib.hid (Blk.new w4 #[.slice A4 0 c4, .slice M4 0 d4] 40)
  clear CW4 BA4 BB4
  refine (cadd_to (win := 10) (most := 2) (s := some (([7], [(1, 0), (2, 0)]), 15)) (s' := none) (now := 7) (id := 3) (arg := 8) (op := false) (rd := true) (due := 0) (b := ([7, 8], [(1, 0), (2, 0), (3, 1)])) (n := 2) (m := 3) rfl rfl rfl (w64_n ⟨rfl, rfl⟩) (fun _ => w64_n ⟨rfl, rfl⟩) (by decide) (by decide) CWx.out.isC).mono ?_
  rintro e_ w5 ⟨p5, A5, c5, M5, d5, rfl, hp⟩
  have CW5 := Lib.hid (CWx.out.next hp)
  have BA5 := Lib.hid (CWx.out.blk hp BAx.out (by decide) (by decide))
  have BB5 := Lib.hid (CWx.out.blk hp BBx.out (by decide) (by decide))
  have BC5 := Lib.hid (CWx.out.blk hp BCx.out (by decide) (by decide))
  clear hp CWx BAx BBx BCx
  have BA0_ : w5.cell? ⟨w2.heap.size, 0, none⟩ = some (.bool true) := BA5.out.cell 0
  have BA1_ : w5.cell? ⟨w2.heap.size, 1, none⟩ = some (.bool false) := BA5.out.cell 1
  have BA2_ : w5.cell? ⟨w2.heap.size, 2, none⟩ = some (.int .u64 15) := BA5.out.cell 2
  have BA3_ : w5.cell? ⟨w2.heap.size, 3, none⟩ = some (.slice A2 0 c2) := BA5.out.cell 3
  have BA4_ : w5.cell? ⟨w2.heap.size, 4, none⟩ = some (.slice M2 0 d2) := BA5.out.cell 4
  have BAl_ := BA5.out.lt
  have BB0_ : w5.cell? ⟨w3.heap.size, 0, none⟩ = some (.bool false) := BB5.out.cell 0
  have BB1_ : w5.cell? ⟨w3.heap.size, 1, none⟩ = some (.bool false) := BB5.out.cell 1
  have BB2_ : w5.cell? ⟨w3.heap.size, 2, none⟩ = some (.int .u64 0) := BB5.out.cell 2
  have BB3_ : w5.cell? ⟨w3.heap.size, 3, none⟩ = some (.slice A3 0 c3) := BB5.out.cell 3
  have BB4_ : w5.cell? ⟨w3.heap.size, 4, none⟩ = some (.slice M3 0 d3) := BB5.out.cell 4
  have BBl_ := BB5.out.lt
  have BC0_ : w5.cell? ⟨w4.heap.size, 0, none⟩ = some (.slice A4 0 c4) := BC5.out.cell 0
  have BC1_ : w5.cell? ⟨w4.heap.size, 1, none⟩ = some (.slice M4 0 d4) := BC5.out.cell 1
  have BCl_ := BC5.out.lt
  go_wp2_with fail
  clear BA0_ BA1_ BA2_ BA3_ BA4_ BAl_ BB0_ BB1_ BB2_ BB3_ BB4_ BBl_ BC0_ BC1_ BCl_
  have CWx := Lib.hid (CW5.out.keep0 ((Upd.refl (fun _ => False) w5).alloc (.cells #[.bool false, .bool true, .int .u64 0, .slice A5 2 c5, .slice M5 3 d5] 42)))
  have BAx := Lib.hid (BA5.out.alloc (.cells #[.bool false, .bool true, .int .u64 0, .slice A5 2 c5, .slice M5 3 d5] 42))
  have BBx := Lib.hid (BB5.out.alloc (.cells #[.bool false, .bool true, .int .u64 0, .slice A5 2 c5, .slice M5 3 d5] 42))
  have BCx := Lib.hid (BC5.out.alloc (.cells #[.bool false, .bool true, .int .u64 0, .slice A5 2 c5, .slice M5 3 d5] 42))
  have BDx := Lib.hid (Blk.new w5 #[.bool false, .bool true, .int .u64 0, .slice A5 2 c5, .slice M5 3 d5] 42)
  clear CW5 BA5 BB5 BC5
  refine (cadd_to (win := 10) (most := 2) (s := none) (s' := some (([9], [(4, 0)]), 18)) (now := 8) (id := 4) (arg := 9) (op := true) (rd := false) (due := 18) (b := ([], [])) (n := 0) (m := 0) rfl rfl rfl (w64_n ⟨rfl, rfl⟩) (fun _ => w64_n ⟨rfl, rfl⟩) (by decide) (by decide) CWx.out.isC).mono ?_
  rintro e_ w6 ⟨p6, A6, c6, M6, d6, rfl, hp⟩
  have CW6 := Lib.hid (CWx.out.next hp)
  have BA6 := Lib.hid (CWx.out.blk hp BAx.out (by decide) (by decide))
  have BB6 := Lib.hid (CWx.out.blk hp BBx.out (by decide) (by decide))
  have BC6 := Lib.hid (CWx.out.blk hp BCx.out (by decide) (by decide))
  have BD6 := Lib.hid (CWx.out.blk hp BDx.out (by decide) (by decide))
  clear hp CWx BAx BBx BCx BDx
  have BA0_ : w6.cell? ⟨w2.heap.size, 0, none⟩ = some (.bool true) := BA6.out.cell 0
  have BA1_ : w6.cell? ⟨w2.heap.size, 1, none⟩ = some (.bool false) := BA6.out.cell 1
  have BA2_ : w6.cell? ⟨w2.heap.size, 2, none⟩ = some (.int .u64 15) := BA6.out.cell 2
  have BA3_ : w6.cell? ⟨w2.heap.size, 3, none⟩ = some (.slice A2 0 c2) := BA6.out.cell 3
  have BA4_ : w6.cell? ⟨w2.heap.size, 4, none⟩ = some (.slice M2 0 d2) := BA6.out.cell 4
  have BAl_ := BA6.out.lt
  have BB0_ : w6.cell? ⟨w3.heap.size, 0, none⟩ = some (.bool false) := BB6.out.cell 0
  have BB1_ : w6.cell? ⟨w3.heap.size, 1, none⟩ = some (.bool false) := BB6.out.cell 1
  have BB2_ : w6.cell? ⟨w3.heap.size, 2, none⟩ = some (.int .u64 0) := BB6.out.cell 2
  have BB3_ : w6.cell? ⟨w3.heap.size, 3, none⟩ = some (.slice A3 0 c3) := BB6.out.cell 3
  have BB4_ : w6.cell? ⟨w3.heap.size, 4, none⟩ = some (.slice M3 0 d3) := BB6.out.cell 4
  have BBl_ := BB6.out.lt
  have BC0_ : w6.cell? ⟨w4.heap.size, 0, none⟩ = some (.slice A4 0 c4) := BC6.out.cell 0
  have BC1_ : w6.cell? ⟨w4.heap.size, 1, none⟩ = some (.slice M4 0 d4) := BC6.out.cell 1
  have BCl_ := BC6.out.lt
  have BD0_ : w6.cell? ⟨w5.heap.size, 0, none⟩ = some (.bool false) := BD6.out.cell 0
  have BD1_ : w6.cell? ⟨w5.heap.size, 1, none⟩ = some (.bool true) := BD6.out.cell 1
  have BD2_ : w6.cell? ⟨w5.heap.size, 2, none⟩ = some (.int .u64 0) := BD6.out.cell 2
  have BD3_ : w6.cell? ⟨w5.heap.size, 3, none⟩ = some (.slice A5 2 c5) := BD6.out.cell 3
  have BD4_ : w6.cell? ⟨w5.heap.size, 4, none⟩ = some (.slice M5 3 d5) := BD6.out.cell 4
  have BDl_ := BD6.out.lt
  go_wp2_with fail
  clear BA0_ BA1_ BA2_ BA3_ BA4_ BAl_ BB0_ BB1_ BB2_ BB3_ BB4_ BBl_ BC0_ BC1_ BCl_ BD0_ BD1_ BD2_ BD3_ BD4_ BDl_
  have CWx := Lib.hid (CW6.out.keep0 ((Upd.refl (fun _ => False) w6).alloc (.cells #[.bool true, .bool false, .int .u64 18, .slice A6 0 c6, .slice M6 0 d6] 42)))
  have BAx := Lib.hid (BA6.out.alloc (.cells #[.bool true, .bool false, .int .u64 18, .slice A6 0 c6, .slice M6 0 d6] 42))
  have BBx := Lib.hid (BB6.out.alloc (.cells #[.bool true, .bool false, .int .u64 18, .slice A6 0 c6, .slice M6 0 d6] 42))
  have BCx := Lib.hid (BC6.out.alloc (.cells #[.bool true, .bool false, .int .u64 18, .slice A6 0 c6, .slice M6 0 d6] 42))
  have BDx := Lib.hid (BD6.out.alloc (.cells #[.bool true, .bool false, .int .u64 18, .slice A6 0 c6, .slice M6 0 d6] 42))
  have BEx := Lib.hid (Blk.new w6 #[.bool true, .bool false, .int .u64 18, .slice A6 0 c6, .slice M6 0 d6] 42)
  clear CW6 BA6 BB6 BC6 BD6
  refine (cexp_to (win := 10) (most := 2) (s := some (([9], [(4, 0)]), 18)) (s' := none) (now := 18) (is := true) (b := ([9], [(4, 0)])) (n := 1) (m := 1) rfl rfl rfl CWx.out.isC).mono ?_
  rintro e_ w7 ⟨p7, A7, c7, M7, d7, rfl, hp⟩
  have KX7 := Lib.hid hp.km
  have CW7 := Lib.hid (CWx.out.next hp)
  have BA7 := Lib.hid (CWx.out.blk hp BAx.out (by decide) (by decide))
  have BB7 := Lib.hid (CWx.out.blk hp BBx.out (by decide) (by decide))
  have BC7 := Lib.hid (CWx.out.blk hp BCx.out (by decide) (by decide))
  have BD7 := Lib.hid (CWx.out.blk hp BDx.out (by decide) (by decide))
  have BE7 := Lib.hid (CWx.out.blk hp BEx.out (by decide) (by decide))
  clear hp CWx BAx BBx BCx BDx BEx
  have BA0_ : w7.cell? ⟨w2.heap.size, 0, none⟩ = some (.bool true) := BA7.out.cell 0
  have BA1_ : w7.cell? ⟨w2.heap.size, 1, none⟩ = some (.bool false) := BA7.out.cell 1
  have BA2_ : w7.cell? ⟨w2.heap.size, 2, none⟩ = some (.int .u64 15) := BA7.out.cell 2
  have BA3_ : w7.cell? ⟨w2.heap.size, 3, none⟩ = some (.slice A2 0 c2) := BA7.out.cell 3
  have BA4_ : w7.cell? ⟨w2.heap.size, 4, none⟩ = some (.slice M2 0 d2) := BA7.out.cell 4
  have BAl_ := BA7.out.lt
  have BB0_ : w7.cell? ⟨w3.heap.size, 0, none⟩ = some (.bool false) := BB7.out.cell 0
  have BB1_ : w7.cell? ⟨w3.heap.size, 1, none⟩ = some (.bool false) := BB7.out.cell 1
  have BB2_ : w7.cell? ⟨w3.heap.size, 2, none⟩ = some (.int .u64 0) := BB7.out.cell 2
  have BB3_ : w7.cell? ⟨w3.heap.size, 3, none⟩ = some (.slice A3 0 c3) := BB7.out.cell 3
  have BB4_ : w7.cell? ⟨w3.heap.size, 4, none⟩ = some (.slice M3 0 d3) := BB7.out.cell 4
  have BBl_ := BB7.out.lt
  have BC0_ : w7.cell? ⟨w4.heap.size, 0, none⟩ = some (.slice A4 0 c4) := BC7.out.cell 0
  have BC1_ : w7.cell? ⟨w4.heap.size, 1, none⟩ = some (.slice M4 0 d4) := BC7.out.cell 1
  have BCl_ := BC7.out.lt
  have BD0_ : w7.cell? ⟨w5.heap.size, 0, none⟩ = some (.bool false) := BD7.out.cell 0
  have BD1_ : w7.cell? ⟨w5.heap.size, 1, none⟩ = some (.bool true) := BD7.out.cell 1
  have BD2_ : w7.cell? ⟨w5.heap.size, 2, none⟩ = some (.int .u64 0) := BD7.out.cell 2
  have BD3_ : w7.cell? ⟨w5.heap.size, 3, none⟩ = some (.slice A5 2 c5) := BD7.out.cell 3
  have BD4_ : w7.cell? ⟨w5.heap.size, 4, none⟩ = some (.slice M5 3 d5) := BD7.out.cell 4
  have BDl_ := BD7.out.lt
  have BE0_ : w7.cell? ⟨w6.heap.size, 0, none⟩ = some (.bool true) := BE7.out.cell 0
  have BE1_ : w7.cell? ⟨w6.heap.size, 1, none⟩ = some (.bool false) := BE7.out.cell 1
  have BE2_ : w7.cell? ⟨w6.heap.size, 2, none⟩ = some (.int .u64 18) := BE7.out.cell 2
  have BE3_ : w7.cell? ⟨w6.heap.size, 3, none⟩ = some (.slice A6 0 c6) := BE7.out.cell 3
  have BE4_ : w7.cell? ⟨w6.heap.size, 4, none⟩ = some (.slice M6 0 d6) := BE7.out.cell 4
  have BEl_ := BE7.out.lt
  go_wp2_with fail
  clear BA0_ BA1_ BA2_ BA3_ BA4_ BAl_ BB0_ BB1_ BB2_ BB3_ BB4_ BBl_ BC0_ BC1_ BCl_ BD0_ BD1_ BD2_ BD3_ BD4_ BDl_ BE0_ BE1_ BE2_ BE3_ BE4_ BEl_
  have CWx := Lib.hid (CW7.out.keep0 ((Upd.refl (fun _ => False) w7).alloc (.cells #[.slice A7 1 c7, .slice M7 1 d7] 40)))
  have BAx := Lib.hid (BA7.out.alloc (.cells #[.slice A7 1 c7, .slice M7 1 d7] 40))
  have BBx := Lib.hid (BB7.out.alloc (.cells #[.slice A7 1 c7, .slice M7 1 d7] 40))
  have BCx := Lib.hid (BC7.out.alloc (.cells #[.slice A7 1 c7, .slice M7 1 d7] 40))
  have BDx := Lib.hid (BD7.out.alloc (.cells #[.slice A7 1 c7, .slice M7 1 d7] 40))
  have BEx := Lib.hid (BE7.out.alloc (.cells #[.slice A7 1 c7, .slice M7 1 d7] 40))
  have KXx := Lib.hid (KX7.out.keep0 ((Upd.refl (fun _ => False) w7).alloc (.cells #[.slice A7 1 c7, .slice M7 1 d7] 40)))
  have BXx := Lib.hid (Blk.new w7 #[.slice A7 1 c7, .slice M7 1 d7] 40)
  clear CW7 BA7 BB7 BC7 BD7 BE7 KX7
  refine (lead_to (ms := [(4, 0)]) (m := 1) (r := 4) rfl rfl _ KXx.out.sl).mono ?_
  rintro e_ w8 ⟨rfl, hd⟩
  have hu := Upd.of_below hd (fun _ => False)
  have CW8 := Lib.hid (CWx.out.keep0 hu)
  have BA8 := Lib.hid (BAx.out.upd hu (fun h => h))
  have BB8 := Lib.hid (BBx.out.upd hu (fun h => h))
  have BC8 := Lib.hid (BCx.out.upd hu (fun h => h))
  have BD8 := Lib.hid (BDx.out.upd hu (fun h => h))
  have BE8 := Lib.hid (BEx.out.upd hu (fun h => h))
  have BX8 := Lib.hid (BXx.out.upd hu (fun h => h))
  have KX8 := Lib.hid (KXx.out.keep0 hu)
  clear hd hu CWx BAx BBx BCx BDx BEx BXx KXx
  have BA0_ : w8.cell? ⟨w2.heap.size, 0, none⟩ = some (.bool true) := BA8.out.cell 0
  have BA1_ : w8.cell? ⟨w2.heap.size, 1, none⟩ = some (.bool false) := BA8.out.cell 1
  have BA2_ : w8.cell? ⟨w2.heap.size, 2, none⟩ = some (.int .u64 15) := BA8.out.cell 2
  have BA3_ : w8.cell? ⟨w2.heap.size, 3, none⟩ = some (.slice A2 0 c2) := BA8.out.cell 3
  have BA4_ : w8.cell? ⟨w2.heap.size, 4, none⟩ = some (.slice M2 0 d2) := BA8.out.cell 4
  have BAl_ := BA8.out.lt
  have BB0_ : w8.cell? ⟨w3.heap.size, 0, none⟩ = some (.bool false) := BB8.out.cell 0
  have BB1_ : w8.cell? ⟨w3.heap.size, 1, none⟩ = some (.bool false) := BB8.out.cell 1
  have BB2_ : w8.cell? ⟨w3.heap.size, 2, none⟩ = some (.int .u64 0) := BB8.out.cell 2
  have BB3_ : w8.cell? ⟨w3.heap.size, 3, none⟩ = some (.slice A3 0 c3) := BB8.out.cell 3
  have BB4_ : w8.cell? ⟨w3.heap.size, 4, none⟩ = some (.slice M3 0 d3) := BB8.out.cell 4
  have BBl_ := BB8.out.lt
  have BC0_ : w8.cell? ⟨w4.heap.size, 0, none⟩ = some (.slice A4 0 c4) := BC8.out.cell 0
  have BC1_ : w8.cell? ⟨w4.heap.size, 1, none⟩ = some (.slice M4 0 d4) := BC8.out.cell 1
  have BCl_ := BC8.out.lt
  have BD0_ : w8.cell? ⟨w5.heap.size, 0, none⟩ = some (.bool false) := BD8.out.cell 0
  have BD1_ : w8.cell? ⟨w5.heap.size, 1, none⟩ = some (.bool true) := BD8.out.cell 1
  have BD2_ : w8.cell? ⟨w5.heap.size, 2, none⟩ = some (.int .u64 0) := BD8.out.cell 2
  have BD3_ : w8.cell? ⟨w5.heap.size, 3, none⟩ = some (.slice A5 2 c5) := BD8.out.cell 3
  have BD4_ : w8.cell? ⟨w5.heap.size, 4, none⟩ = some (.slice M5 3 d5) := BD8.out.cell 4
  have BDl_ := BD8.out.lt
  have BE0_ : w8.cell? ⟨w6.heap.size, 0, none⟩ = some (.bool true) := BE8.out.cell 0
  have BE1_ : w8.cell? ⟨w6.heap.size, 1, none⟩ = some (.bool false) := BE8.out.cell 1
  have BE2_ : w8.cell? ⟨w6.heap.size, 2, none⟩ = some (.int .u64 18) := BE8.out.cell 2
  have BE3_ : w8.cell? ⟨w6.heap.size, 3, none⟩ = some (.slice A6 0 c6) := BE8.out.cell 3
  have BE4_ : w8.cell? ⟨w6.heap.size, 4, none⟩ = some (.slice M6 0 d6) := BE8.out.cell 4
  have BEl_ := BE8.out.lt
  have BX0_ : w8.cell? ⟨w7.heap.size, 0, none⟩ = some (.slice A7 1 c7) := BX8.out.cell 0
  have BX1_ : w8.cell? ⟨w7.heap.size, 1, none⟩ = some (.slice M7 1 d7) := BX8.out.cell 1
  have BXl_ := BX8.out.lt
  go_wp2_with fail
  refine (open_to (b := false) CW8.out.isC rfl).mono ?_
  rintro e_ w8_ ⟨rfl, rfl⟩
  go_wp2
  go_ret
  exact ⟨rfl, CW8.out.upd.below0⟩
end Go.Proofs.Ytnpecnljibeddaa
