/- A world is loaded just if its program is right and there is room for its globals, else the checker's error or ErrFull is told (the law MachineLoads, whatever the input). Conditions: none. This file: part H. -/
import Derived.Test.YtgghlkikgebipaaGreatG
set_option linter.all false

section
open Go Go.Av
namespace Go.Tw
/-- treadwheel/treadwheellaw19.MachineLoads -/
noncomputable def b_law19_MachineLoads : XCode :=
  (.seq (.reg [
    fO 2 (.box 5 (tt 0)),
    pO 4 (.mv (bb false))])
  (.seq (.seq (.reg [
    cO 11 (fu n_law19_awake) [],
    pO 12 (.not (tt 11))])
  (.cond (tt 12)
    (.seq (.reg [
      pO 4 (.mv (bb false))])
    .ret)
    .skip))
  (.seq (.seq (.reg [
    pO 13 (.fieldAddr 1 (tt 2)),
    rO 14 (.load false 1 (tt 13)),
    pO 15 (.lenSl (tt 14)),
    pO 16 (.int .gtr .i64 (tt 15) (ii 200)),
    pO 17 (.mv (tt 16)),
    gO 17 false (pO 18 (.fieldAddr 2 (tt 2))),
    gO 17 false (rO 19 (.load false 1 (tt 18))),
    gO 17 false (pO 20 (.lenSl (tt 19))),
    gO 17 false (pO 21 (.int .gtr .i64 (tt 20) (ii 600))),
    pO 22 (.pick (tt 17) (bb true) (tt 21)),
    pO 23 (.mv (tt 22)),
    gO 23 false (pO 24 (.fieldAddr 3 (tt 2))),
    gO 23 false (rO 25 (.load false 1 (tt 24))),
    gO 23 false (pO 26 (.lenSl (tt 25))),
    gO 23 false (pO 27 (.int .gtr .i64 (tt 26) (ii 200))),
    pO 28 (.pick (tt 23) (bb true) (tt 27)),
    pO 29 (.mv (tt 28)),
    gO 29 false (pO 30 (.mv (tt 1))),
    gO 29 false (pO 31 (.int .lss .i64 (tt 30) (ii 1))),
    pO 32 (.pick (tt 29) (bb true) (tt 31)),
    pO 33 (.mv (tt 32)),
    gO 33 false (pO 34 (.mv (tt 1))),
    gO 33 false (pO 35 (.int .gtr .i64 (tt 34) (ii 3000))),
    pO 36 (.pick (tt 33) (bb true) (tt 35))])
  (.cond (tt 36)
    (.seq (.reg [
      pO 4 (.mv (bb true))])
    .ret)
    .skip))
  (.seq (.reg [
    pO 38 (.mv (tt 1)),
    fO 39 (.buildSlice 1 1 [(.int .i64 0)] [(0, 1, (ii 1))]),
    pO 40 (.build [(.int .i64 0), (.int .i64 0), (.int .i64 0), (.int .i64 0), (.int .i64 0), (.int .i64 0), .nils] [(0, 1, (tt 38)), (6, 1, (tt 39))]),
    cO 41 (fu n_heap_New) [(tt 40)],
    pO 37 (.mv (tt 41)),
    pO 42 (.extract (tt 37) 0),
    pO 43 (.extract (tt 37) 1),
    pO 5 (.mv (tt 42)),
    pO 6 (.mv (tt 43))])
  (.seq (.seq (.reg [
    pO 44 (.mv (tt 6)),
    pO 45 (.int .neq .i64 (tt 44) (ii 0)),
    pO 46 (.mv (tt 45)),
    gO 46 false (pO 47 (.mv (tt 5))),
    gO 46 false (pO 48 (.nileq false .pt false (tt 47) (kc .nilp))),
    pO 49 (.pick (tt 46) (bb true) (tt 48))])
  (.cond (tt 49)
    (.seq (.reg [
      pO 4 (.mv (bb false))])
    .ret)
    .skip))
  (.seq (.reg [
    rO 51 (.load true 5 (tt 2)),
    pO 52 (.mv (tt 5)),
    cO 53 (fu n_machine_Load) [(tt 51), (tt 52), (kc .nils), (fu n_law19_MachineLoads_1)],
    pO 50 (.mv (tt 53)),
    pO 54 (.extract (tt 50) 0),
    pO 55 (.extract (tt 50) 1),
    pO 7 (.mv (tt 54)),
    pO 8 (.mv (tt 55))])
  (.seq (.seq (.reg [
    rO 57 (.load true 5 (tt 2)),
    cO 58 (fu n_ref14_Check) [(tt 57)],
    pO 56 (.mv (tt 58)),
    pO 59 (.extract (tt 56) 0),
    pO 60 (.extract (tt 56) 1),
    pO 9 (.mv (tt 59)),
    pO 10 (.mv (tt 60))])
  (.seq (.reg [
    pO 61 (.mv (tt 9)),
    pO 62 (.int .neq .i64 (tt 61) (ii 0))])
  (.cond (tt 62)
    (.seq (.reg [
      pO 63 (.mv (tt 8)),
      pO 64 (.mv (tt 9)),
      pO 65 (.int .eql .i64 (tt 63) (tt 64)),
      pO 66 (.mv (tt 65)),
      gO 66 true (pO 67 (.mv (tt 7))),
      gO 66 true (pO 68 (.nileq false .pt false (tt 67) (kc .nilp))),
      pO 69 (.pick (tt 66) (tt 68) (bb false)),
      pO 70 (.mv (tt 69)),
      gO 70 true (rO 71 (.load true 5 (tt 2))),
      gO 70 true (cO 72 (fu n_machine_Needs) [(tt 71)]),
      gO 70 true (pO 73 (.int .eql .i64 (tt 72) (ii 0))),
      pO 74 (.pick (tt 70) (tt 73) (bb false)),
      pO 4 (.mv (tt 74))])
    .ret)
    .skip)))
  (.seq (.seq (.reg [
    pO 75 (.fieldAddr 3 (tt 2)),
    rO 76 (.load false 1 (tt 75)),
    pO 77 (.lenSl (tt 76)),
    pO 78 (.int .mul .i64 (ii 4) (tt 77)),
    pO 79 (.int .add .i64 (ii 1) (tt 78)),
    pO 80 (.mv (tt 1)),
    pO 81 (.int .gtr .i64 (tt 79) (tt 80))])
  (.cond (tt 81)
    (.seq (.reg [
      pO 82 (.mv (tt 8)),
      pO 83 (.int .eql .i64 (tt 82) (ii 2)),
      pO 84 (.mv (tt 83)),
      gO 84 true (pO 85 (.mv (tt 7))),
      gO 84 true (pO 86 (.nileq false .pt false (tt 85) (kc .nilp))),
      pO 87 (.pick (tt 84) (tt 86) (bb false)),
      pO 4 (.mv (tt 87))])
    .ret)
    .skip))
  (.seq (.dreg [
    ⟨pO 88 (.mv (tt 8)), []⟩,
    ⟨pO 89 (.int .eql .i64 (tt 88) (ii 0)), []⟩,
    ⟨pO 90 (.mv (tt 89)), []⟩,
    ⟨gO 90 true (pO 91 (.mv (tt 7))), []⟩,
    ⟨gO 90 true (pO 92 (.nileq true .pt false (tt 91) (kc .nilp))), []⟩,
    ⟨pO 93 (.pick (tt 90) (tt 92) (bb false)), []⟩,
    ⟨pO 94 (.mv (tt 93)), []⟩,
    ⟨gO 94 true (pO 95 (.mv (tt 7))), []⟩,
    ⟨gO 94 true (cO 96 (fu n_machine_World_Globals) [(tt 95)]), []⟩,
    ⟨gO 94 true (pO 97 (.lenSl (tt 96))), []⟩,
    ⟨gO 94 true (pO 98 (.fieldAddr 3 (tt 2))), []⟩,
    ⟨gO 94 true (rO 99 (.load false 1 (tt 98))), [8]⟩,
    ⟨gO 94 true (pO 100 (.lenSl (tt 99))), []⟩,
    ⟨gO 94 true (pO 101 (.int .eql .i64 (tt 97) (tt 100))), []⟩,
    ⟨pO 102 (.pick (tt 94) (tt 101) (bb false)), []⟩,
    ⟨pO 103 (.mv (tt 102)), []⟩,
    ⟨gO 103 true (pO 104 (.mv (tt 7))), []⟩,
    ⟨gO 103 true (cO 105 (fu n_machine_World_Words) [(tt 104)]), []⟩,
    ⟨gO 103 true (pO 106 (.fieldAddr 3 (tt 2))), []⟩,
    ⟨gO 103 true (rO 107 (.load false 1 (tt 106))), [17]⟩,
    ⟨gO 103 true (pO 108 (.lenSl (tt 107))), []⟩,
    ⟨gO 103 true (pO 109 (.int .mul .i64 (ii 4) (tt 108))), []⟩,
    ⟨gO 103 true (pO 110 (.int .eql .i64 (tt 105) (tt 109))), []⟩,
    ⟨pO 111 (.pick (tt 103) (tt 110) (bb false)), []⟩,
    ⟨pO 112 (.mv (tt 111)), []⟩,
    ⟨gO 112 true (pO 113 (.mv (tt 5))), []⟩,
    ⟨gO 112 true (pO 114 (.mv (tt 7))), []⟩,
    ⟨gO 112 true (cO 115 (fu n_machine_World_Globals) [(tt 114)]), []⟩,
    ⟨gO 112 true (rO 116 (.load true 5 (tt 2))), [27]⟩,
    ⟨gO 112 true (cO 117 (fu n_ref19_New) [(tt 116), (ii 0)]), []⟩,
    ⟨gO 112 true (rO 118 (.load true 5 (tt 2))), [27, 29]⟩,
    ⟨gO 112 true (cO 119 (fu n_ref19_New) [(tt 118), (ii 0)]), []⟩,
    ⟨gO 112 true (pO 120 (.nilCheck (tt 119))), []⟩,
    ⟨gO 112 true (pO 121 (.fieldAddr 6 (tt 120))), []⟩,
    ⟨gO 112 true (rO 122 (.load false 1 (tt 121))), []⟩,
    ⟨gO 112 true (cO 123 (fu n_law19_Alike) [(tt 113), (tt 115), (tt 117), (tt 122)]), []⟩,
    ⟨pO 124 (.pick (tt 112) (tt 123) (bb false)), []⟩,
    ⟨pO 4 (.mv (tt 124)), []⟩])
  .ret)))))))))
theorem u_law19_MachineLoads (args : List AVal) (h : Heap) (hl : Nat.ble args.length 125 = true) : callF X n_law19_MachineLoads args h = outF (codeF X b_law19_MachineLoads (pa args 0 .leaf) h) [rt 4] false := x_callz (fn := ⟨125, [rt 4], b_law19_MachineLoads⟩) (by kernel_rfl) (by kernel_rfl) hl h

/-- (*treadwheel/machine.World).Words -/
noncomputable def b_machine_World_Words : XCode :=
  (.seq (.reg [
    pO 2 (.mv (ii 0))])
  (.seq (.reg [
    pO 3 (.mv (tt 0)),
    pO 4 (.nilCheck (tt 3)),
    pO 5 (.fieldAddr 8 (tt 4)),
    rO 6 (.load false 1 (tt 5)),
    pO 2 (.mv (tt 6))])
  .ret))
theorem u_machine_World_Words (args : List AVal) (h : Heap) (hl : Nat.ble args.length 7 = true) : callF X n_machine_World_Words args h = outF (codeF X b_machine_World_Words (pa args 0 .leaf) h) [rt 2] false := x_callz (fn := ⟨7, [rt 2], b_machine_World_Words⟩) (by kernel_rfl) (by kernel_rfl) hl h

/-- (*treadwheel/machine.World).Globals -/
noncomputable def b_machine_World_Globals : XCode :=
  (.seq (.reg [
    pO 2 (.mv (kc .nils))])
  (.seq (.reg [
    fO 3 (.buildSlice 1 0 [(.int .i64 0)] []),
    pO 4 (.mv (tt 0)),
    pO 5 (.nilCheck (tt 4)),
    pO 6 (.fieldAddr 6 (tt 5)),
    rO 7 (.load false 1 (tt 6)),
    fO 8 (.append 1 8 (tt 3) (tt 7)),
    pO 2 (.mv (tt 8))])
  .ret))
theorem u_machine_World_Globals (args : List AVal) (h : Heap) (hl : Nat.ble args.length 9 = true) : callF X n_machine_World_Globals args h = outF (codeF X b_machine_World_Globals (pa args 0 .leaf) h) [rt 2] false := x_callz (fn := ⟨9, [rt 2], b_machine_World_Globals⟩) (by kernel_rfl) (by kernel_rfl) hl h

noncomputable def b_heap_New_L0 : XCode :=
  (.seq (.reg [
    pO 46 (.int .lss .i64 (tt 45) (tt 44))])
  (.seq (.cond (tt 46)
    .skip
    (.exit 0))
  (.seq (.block 1 (.dreg [
    ⟨pO 47 (.mv (tt 6)), []⟩,
    ⟨pO 48 (.mv (tt 6)), []⟩,
    ⟨pO 49 (.nilCheck (tt 48)), []⟩,
    ⟨pO 50 (.fieldAddr 2 (tt 49)), []⟩,
    ⟨rO 51 (.load false 1 (tt 50)), [7, 8]⟩,
    ⟨pO 52 (.mv (tt 4)), []⟩,
    ⟨cO 53 (fu n_ring_New) [(tt 52)], []⟩,
    ⟨fO 54 (.buildSlice 1 1 [.nilp] [(0, 1, (tt 53))]), []⟩,
    ⟨fO 55 (.append 1 8 (tt 51) (tt 54)), []⟩,
    ⟨pO 56 (.nilCheck (tt 47)), []⟩,
    ⟨pO 57 (.fieldAddr 2 (tt 56)), []⟩,
    ⟨fN (.store 1 (tt 57) (tt 55)), []⟩]))
  (.reg [
    pO 58 (.int .add .i64 (tt 45) (ii 1)),
    pO 45 (.mv (tt 58))]))))

/-- treadwheel/heap.New -/
noncomputable def b_heap_New : XCode :=
  (.seq (.reg [
    fO 1 (.box 7 (tt 0)),
    pO 2 (.mv (kc .nilp)),
    pO 3 (.mv (ii 0))])
  (.seq (.seq (.reg [
    rO 7 (.load true 7 (tt 1)),
    cO 8 (fu n_heap_right) [(tt 7)],
    pO 9 (.not (tt 8))])
  (.cond (tt 9)
    (.seq (.reg [
      pO 2 (.mv (kc .nilp)),
      pO 3 (.mv (ii 1))])
    .ret)
    .skip))
  (.seq (.reg [
    pO 11 (.fieldAddr 0 (tt 1)),
    rO 12 (.load false 1 (tt 11)),
    cO 13 (fu n_arena_New) [(tt 12)],
    pO 10 (.mv (tt 13)),
    pO 14 (.extract (tt 10) 0),
    pO 15 (.extract (tt 10) 1),
    pO 4 (.mv (tt 14)),
    pO 5 (.mv (tt 15))])
  (.seq (.dreg [
    ⟨pO 16 (.mv (tt 4)), []⟩,
    ⟨pO 17 (.fieldAddr 6 (tt 1)), []⟩,
    ⟨rO 18 (.load false 1 (tt 17)), []⟩,
    ⟨cO 19 (fu n_slices_Clone_int_int) [(tt 18)], []⟩,
    ⟨pO 20 (.mv (tt 4)), []⟩,
    ⟨cO 21 (fu n_ring_New) [(tt 20)], []⟩,
    ⟨pO 22 (.fieldAddr 0 (tt 1)), []⟩,
    ⟨rO 23 (.load false 1 (tt 22)), [3, 5]⟩,
    ⟨pO 24 (.fieldAddr 1 (tt 1)), []⟩,
    ⟨rO 25 (.load false 1 (tt 24)), [3, 5]⟩,
    ⟨pO 26 (.int .sub .i64 (tt 23) (tt 25)), []⟩,
    ⟨pO 27 (.build [.nilp, .nils, .nils, .nilp, .nilp, (.int .i64 0), (.int .i64 0), (.int .i64 0)] [(0, 1, (tt 16)), (1, 1, (tt 19)), (3, 1, (tt 21)), (5, 1, (ii 1)), (6, 1, (tt 26))]), []⟩,
    ⟨fO 28 (.box 8 (tt 27)), []⟩,
    ⟨pO 6 (.mv (tt 28)), []⟩])
  (.seq (.dreg (dl [
    pO 30 (.mv (tt 6)),
    pO 31 (.mv (tt 6)),
    pO 32 (.nilCheck (tt 31)),
    pO 33 (.fieldAddr 6 (tt 32)),
    rO 34 (.load false 1 (tt 33)),
    pO 35 (.fieldAddr 1 (tt 1)),
    rO 36 (.load false 1 (tt 35)),
    cO 37 (fu n_extent_New) [(tt 34), (tt 36)],
    pO 29 (.mv (tt 37)),
    pO 38 (.extract (tt 29) 0),
    pO 39 (.extract (tt 29) 1),
    pO 40 (.nilCheck (tt 30)),
    pO 41 (.fieldAddr 4 (tt 40)),
    fN (.store 1 (tt 41) (tt 38))]))
  (.seq (.seq (.reg [
    pO 42 (.fieldAddr 6 (tt 1)),
    rO 43 (.load false 1 (tt 42)),
    pO 44 (.lenSl (tt 43)),
    pO 45 (.mv (ii 0))])
  (.block 0 (.loop b_heap_New_L0)))
  (.seq (.reg [
    pO 59 (.mv (tt 6)),
    pO 2 (.mv (tt 59)),
    pO 3 (.mv (ii 0))])
  .ret)))))))
theorem u_heap_New (args : List AVal) (h : Heap) (hl : Nat.ble args.length 60 = true) : callF X n_heap_New args h = outF (codeF X b_heap_New (pa args 0 .leaf) h) [rt 2, rt 3] false := x_callz (fn := ⟨60, [rt 2, rt 3], b_heap_New⟩) (by kernel_rfl) (by kernel_rfl) hl h

noncomputable def b_machine_Load_L0_S6 : XCode :=
  (.seq (.seq (.reg [
    pO 53 (.mv (tt 16)),
    pO 54 (.not (tt 53))])
  (.cond (tt 54)
    (.seq (.reg [
      pO 8 (.mv (kc .nilp)),
      pO 9 (.mv (ii 2))])
    .ret)
    .skip))
  (.reg [
    pO 55 (.mv (tt 12)),
    pO 56 (.mv (tt 12)),
    pO 57 (.nilCheck (tt 56)),
    pO 58 (.fieldAddr 6 (tt 57)),
    rO 59 (.load false 1 (tt 58)),
    pO 60 (.mv (tt 15)),
    fO 61 (.buildSlice 1 1 [(.int .i64 0)] [(0, 1, (tt 60))]),
    fO 62 (.append 1 8 (tt 59) (tt 61)),
    pO 63 (.nilCheck (tt 55)),
    pO 64 (.fieldAddr 6 (tt 63)),
    fN (.store 1 (tt 64) (tt 62))]))

noncomputable def b_machine_Load_L0 : XCode :=
  (.seq (.reg [
    pO 33 (.int .lss .i64 (tt 32) (tt 31))])
  (.seq (.cond (tt 33)
    .skip
    (.exit 0))
  (.seq (.block 1 (.seq (.reg [
    pO 34 (.addrSl 3 (tt 30) (tt 32)),
    rO 35 (.load true 3 (tt 34)),
    fO 14 (.alloc [(.int .i64 0), (.bool false), (.int .u64 0)]),
    fN (.store 3 (tt 14) (tt 35))])
  (.seq (.reg [
    pO 15 (.mv (ii 0)),
    pO 16 (.mv (bb false))])
  (.seq (.seq (.reg [
    pO 36 (.fieldAddr 0 (tt 14)),
    rO 37 (.load false 1 (tt 36)),
    pO 38 (.int .geq .i64 (tt 37) (ii 0))])
  (.cond (tt 38)
    (.reg [
      pO 40 (.mv (tt 12)),
      pO 41 (.fieldAddr 0 (tt 14)),
      rO 42 (.load false 1 (tt 41)),
      cO 43 (fu n_machine_World_closure) [(tt 40), (tt 42)],
      pO 39 (.mv (tt 43)),
      pO 44 (.extract (tt 39) 0),
      pO 45 (.extract (tt 39) 1),
      pO 15 (.mv (tt 44)),
      pO 16 (.mv (tt 45))])
    (.reg [
      pO 47 (.mv (tt 12)),
      pO 48 (.fieldAddr 1 (tt 14)),
      rO 49 (.load true 2 (tt 48)),
      cO 50 (fu n_machine_World_number) [(tt 47), (tt 49)],
      pO 46 (.mv (tt 50)),
      pO 51 (.extract (tt 46) 0),
      pO 52 (.extract (tt 46) 1),
      pO 15 (.mv (tt 51)),
      pO 16 (.mv (tt 52))])))
  b_machine_Load_L0_S6))))
  (.reg [
    pO 65 (.int .add .i64 (tt 32) (ii 1)),
    pO 32 (.mv (tt 65))]))))

/-- treadwheel/machine.Load -/
noncomputable def b_machine_Load : XCode :=
  (.seq (.reg [
    fO 4 (.box 5 (tt 0)),
    pO 8 (.mv (kc .nilp)),
    pO 9 (.mv (ii 0))])
  (.seq (.seq (.reg [
    rO 18 (.load true 5 (tt 4)),
    cO 19 (fu n_code_Check) [(tt 18)],
    pO 17 (.mv (tt 19)),
    pO 20 (.extract (tt 17) 0),
    pO 21 (.extract (tt 17) 1),
    pO 10 (.mv (tt 20)),
    pO 11 (.mv (tt 21))])
  (.seq (.reg [
    pO 22 (.mv (tt 10)),
    pO 23 (.int .neq .i64 (tt 22) (ii 0))])
  (.cond (tt 23)
    (.seq (.reg [
      pO 24 (.mv (tt 10)),
      pO 8 (.mv (kc .nilp)),
      pO 9 (.mv (tt 24))])
    .ret)
    .skip)))
  (.seq (.reg [
    rO 25 (.load true 5 (tt 4)),
    pO 26 (.mv (tt 1)),
    pO 27 (.build [.nils, .nils, .nils, .nils, (.int .i64 0), .nilp, .nils, .nilp, (.int .i64 0), (.int .i64 0)] [(0, 5, (tt 25)), (5, 1, (tt 26))]),
    fO 28 (.box 10 (tt 27)),
    pO 12 (.mv (tt 28))])
  (.seq (.seq (.reg [
    pO 29 (.fieldAddr 3 (tt 4)),
    rO 30 (.load false 1 (tt 29)),
    pO 31 (.lenSl (tt 30)),
    pO 32 (.mv (ii 0))])
  (.block 0 (.loop b_machine_Load_L0)))
  (.seq (.reg [
    pO 66 (.mv (tt 12)),
    pO 67 (.mv (tt 1)),
    pO 68 (.mv (tt 12)),
    pO 69 (.nilCheck (tt 68)),
    pO 70 (.fieldAddr 6 (tt 69)),
    rO 71 (.load false 1 (tt 70)),
    pO 72 (.mv (tt 2)),
    pO 73 (.mv (tt 3)),
    cO 74 (fu n_cycle_New) [(tt 67), (tt 71), (tt 72), (tt 73)],
    pO 75 (.nilCheck (tt 66)),
    pO 76 (.fieldAddr 7 (tt 75)),
    fN (.store 1 (tt 76) (tt 74))])
  (.seq (.reg [
    pO 77 (.mv (tt 12)),
    pO 8 (.mv (tt 77)),
    pO 9 (.mv (ii 0))])
  .ret))))))
theorem u_machine_Load (args : List AVal) (h : Heap) (hl : Nat.ble args.length 78 = true) : callF X n_machine_Load args h = outF (codeF X b_machine_Load (pa args 0 .leaf) h) [rt 8, rt 9] false := x_callz (fn := ⟨78, [rt 8, rt 9], b_machine_Load⟩) (by kernel_rfl) (by kernel_rfl) hl h

noncomputable def b_ref14_Check_L0 : XCode :=
  (.seq (.seq (.reg [
    pO 21 (.mv (tt 5)),
    pO 22 (.fieldAddr 1 (tt 1)),
    rO 23 (.load false 1 (tt 22)),
    pO 24 (.lenSl (tt 23)),
    pO 25 (.int .lss .i64 (tt 21) (tt 24))])
  (.cond (tt 25)
    .skip
    (.exit 0)))
  (.seq (.block 1 (.seq (.reg [
    pO 28 (.mv (tt 4)),
    pO 29 (.mv (tt 5)),
    cO 30 (fu n_ref14_C_code) [(tt 28), (tt 29)]])
  (.seq (.reg [
    pO 31 (.mv (tt 4)),
    pO 32 (.nilCheck (tt 31)),
    pO 33 (.fieldAddr 7 (tt 32)),
    rO 34 (.load false 1 (tt 33)),
    pO 35 (.int .neq .i64 (tt 34) (ii 0))])
  (.cond (tt 35)
    (.seq (.reg [
      pO 36 (.mv (tt 4)),
      pO 37 (.nilCheck (tt 36)),
      pO 38 (.fieldAddr 7 (tt 37)),
      rO 39 (.load false 1 (tt 38)),
      pO 40 (.mv (tt 5)),
      pO 2 (.mv (tt 39)),
      pO 3 (.mv (tt 40))])
    .ret)
    .skip))))
  (.reg [
    pO 26 (.mv (tt 5)),
    pO 27 (.int .add .i64 (tt 26) (ii 1)),
    pO 5 (.mv (tt 27))])))

/-- treadwheel/treadwheelref14.Check -/
noncomputable def b_ref14_Check : XCode :=
  (.seq (.reg [
    fO 1 (.box 5 (tt 0)),
    pO 2 (.mv (ii 0)),
    pO 3 (.mv (ii 0))])
  (.seq (.reg [
    rO 6 (.load true 5 (tt 1)),
    fO 7 (.mkMap),
    pO 8 (.build [.nils, .nils, .nils, .nils, (.int .i64 0), .nilmap, (.int .i64 0), (.int .i64 0)] [(0, 5, (tt 6)), (5, 1, (tt 7))]),
    fO 9 (.box 8 (tt 8)),
    pO 4 (.mv (tt 9))])
  (.seq (.reg [
    pO 10 (.mv (tt 4)),
    cO 11 (fu n_ref14_C_roots) [(tt 10)]])
  (.seq (.seq (.reg [
    pO 12 (.mv (tt 4)),
    pO 13 (.nilCheck (tt 12)),
    pO 14 (.fieldAddr 7 (tt 13)),
    rO 15 (.load false 1 (tt 14)),
    pO 16 (.int .neq .i64 (tt 15) (ii 0))])
  (.cond (tt 16)
    (.seq (.reg [
      pO 17 (.mv (tt 4)),
      pO 18 (.nilCheck (tt 17)),
      pO 19 (.fieldAddr 7 (tt 18)),
      rO 20 (.load false 1 (tt 19)),
      pO 2 (.mv (tt 20)),
      pO 3 (.mv (ii (-1)))])
    .ret)
    .skip))
  (.seq (.seq (.reg [
    pO 5 (.mv (ii 0))])
  (.block 0 (.loop b_ref14_Check_L0)))
  (.seq (.reg [
    pO 2 (.mv (ii 0)),
    pO 3 (.mv (ii 0))])
  .ret))))))
theorem u_ref14_Check (args : List AVal) (h : Heap) (hl : Nat.ble args.length 41 = true) : callF X n_ref14_Check args h = outF (codeF X b_ref14_Check (pa args 0 .leaf) h) [rt 2, rt 3] false := x_callz (fn := ⟨41, [rt 2, rt 3], b_ref14_Check⟩) (by kernel_rfl) (by kernel_rfl) hl h

noncomputable def b_machine_Needs_L0 : XCode :=
  (.seq (.reg [
    pO 14 (.int .lss .i64 (tt 13) (tt 12))])
  (.seq (.cond (tt 14)
    .skip
    (.exit 0))
  (.seq (.block 1 (.seq (.reg [
    pO 15 (.addrSl 1 (tt 11) (tt 13)),
    rO 16 (.load false 1 (tt 15)),
    pO 5 (.mv (tt 16))])
  (.reg [
    pO 17 (.mv (tt 3)),
    pO 18 (.mv (tt 5)),
    pO 19 (.minmax true .i64 (tt 17) (tt 18)),
    pO 3 (.mv (tt 19))])))
  (.reg [
    pO 20 (.int .add .i64 (tt 13) (ii 1)),
    pO 13 (.mv (tt 20))]))))

noncomputable def b_machine_Needs_L1 : XCode :=
  (.seq (.reg [
    pO 32 (.int .lss .i64 (tt 31) (tt 30))])
  (.seq (.cond (tt 32)
    .skip
    (.exit 2))
  (.seq (.block 3 (.seq (.reg [
    pO 33 (.addrSl 8 (tt 29) (tt 31)),
    rO 34 (.load true 8 (tt 33)),
    fO 9 (.alloc [(.int .i64 0), (.int .i64 0), (.bool false), (.int .i64 0), .nils, .nils, (.int .i64 0), .nils]),
    fN (.store 8 (tt 9) (tt 34))])
  (.reg [
    pO 35 (.mv (tt 3)),
    rO 36 (.load true 5 (tt 1)),
    rO 37 (.load true 8 (tt 9)),
    cO 38 (fu n_machine_needs) [(tt 36), (tt 37)],
    pO 39 (.minmax true .i64 (tt 35) (tt 38)),
    pO 3 (.mv (tt 39))])))
  (.reg [
    pO 40 (.int .add .i64 (tt 31) (ii 1)),
    pO 31 (.mv (tt 40))]))))

/-- treadwheel/machine.Needs -/
noncomputable def b_machine_Needs : XCode :=
  (.seq (.reg [
    fO 1 (.box 5 (tt 0)),
    pO 2 (.mv (ii 0))])
  (.seq (.reg [
    pO 3 (.mv (ii 0))])
  (.seq (.seq (.reg [
    rO 10 (.load true 5 (tt 1)),
    cO 11 (fu n_code_Slots) [(tt 10)],
    pO 12 (.lenSl (tt 11)),
    pO 13 (.mv (ii 0))])
  (.block 0 (.loop b_machine_Needs_L0)))
  (.seq (.seq (.reg [
    rO 22 (.load true 5 (tt 1)),
    cO 23 (fu n_code_Check) [(tt 22)],
    pO 21 (.mv (tt 23)),
    pO 24 (.extract (tt 21) 0),
    pO 25 (.extract (tt 21) 1),
    pO 6 (.mv (tt 24)),
    pO 7 (.mv (tt 25))])
  (.seq (.reg [
    pO 26 (.mv (tt 6)),
    pO 27 (.int .neq .i64 (tt 26) (ii 0))])
  (.cond (tt 27)
    (.seq (.reg [
      pO 2 (.mv (ii 0))])
    .ret)
    .skip)))
  (.seq (.seq (.reg [
    pO 28 (.fieldAddr 2 (tt 1)),
    rO 29 (.load false 1 (tt 28)),
    pO 30 (.lenSl (tt 29)),
    pO 31 (.mv (ii 0))])
  (.block 2 (.loop b_machine_Needs_L1)))
  (.seq (.reg [
    pO 41 (.mv (tt 3)),
    pO 2 (.mv (tt 41))])
  .ret))))))
theorem u_machine_Needs (args : List AVal) (h : Heap) (hl : Nat.ble args.length 42 = true) : callF X n_machine_Needs args h = outF (codeF X b_machine_Needs (pa args 0 .leaf) h) [rt 2] false := x_callz (fn := ⟨42, [rt 2], b_machine_Needs⟩) (by kernel_rfl) (by kernel_rfl) hl h

noncomputable def b_law19_Alike_L0 : XCode :=
  (.seq (.seq (.reg [
    pO 22 (.mv (tt 10)),
    pO 23 (.mv (tt 1)),
    pO 24 (.lenSl (tt 23)),
    pO 25 (.int .lss .i64 (tt 22) (tt 24))])
  (.cond (tt 25)
    .skip
    (.exit 0)))
  (.seq (.block 1 (.seq (.dreg (dl [
    pO 28 (.mv (tt 9)),
    pO 29 (.mv (tt 1)),
    pO 30 (.mv (tt 10)),
    pO 31 (.addrSl 1 (tt 29) (tt 30)),
    rO 32 (.load false 1 (tt 31)),
    pO 33 (.mv (tt 3)),
    pO 34 (.mv (tt 10)),
    pO 35 (.addrSl 1 (tt 33) (tt 34)),
    rO 36 (.load false 1 (tt 35)),
    cO 37 (fu n_law19_match_one) [(tt 28), (tt 32), (tt 36)],
    pO 38 (.not (tt 37))]))
  (.cond (tt 38)
    (.seq (.reg [
      pO 8 (.mv (bb false))])
    .ret)
    .skip)))
  (.reg [
    pO 26 (.mv (tt 10)),
    pO 27 (.int .add .i64 (tt 26) (ii 1)),
    pO 10 (.mv (tt 27))])))

/-- treadwheel/treadwheellaw19.Alike -/
noncomputable def b_law19_Alike : XCode :=
  (.seq (.reg [
    pO 8 (.mv (bb false))])
  (.seq (.seq (.reg [
    pO 11 (.mv (tt 1)),
    pO 12 (.lenSl (tt 11)),
    pO 13 (.mv (tt 3)),
    pO 14 (.lenSl (tt 13)),
    pO 15 (.int .neq .i64 (tt 12) (tt 14))])
  (.cond (tt 15)
    (.seq (.reg [
      pO 8 (.mv (bb false))])
    .ret)
    .skip))
  (.seq (.reg [
    pO 16 (.mv (tt 0)),
    pO 17 (.mv (tt 2)),
    fO 18 (.mkMap),
    fO 19 (.mkMap),
    pO 20 (.build [.nilp, .nilp, .nilmap, .nilmap] [(0, 1, (tt 16)), (1, 1, (tt 17)), (2, 1, (tt 18)), (3, 1, (tt 19))]),
    fO 21 (.box 4 (tt 20)),
    pO 9 (.mv (tt 21))])
  (.seq (.seq (.reg [
    pO 10 (.mv (ii 0))])
  (.block 0 (.loop b_law19_Alike_L0)))
  (.seq (.reg [
    pO 8 (.mv (bb true))])
  .ret)))))
theorem u_law19_Alike (args : List AVal) (h : Heap) (hl : Nat.ble args.length 39 = true) : callF X n_law19_Alike args h = outF (codeF X b_law19_Alike (pa args 0 .leaf) h) [rt 8] false := x_callz (fn := ⟨39, [rt 8], b_law19_Alike⟩) (by kernel_rfl) (by kernel_rfl) hl h

noncomputable def b_ref19_New_L0 : XCode :=
  (.seq (.seq (.reg [
    pO 13 (.mv (tt 6)),
    pO 14 (.fieldAddr 3 (tt 2)),
    rO 15 (.load false 1 (tt 14)),
    pO 16 (.lenSl (tt 15)),
    pO 17 (.int .lss .i64 (tt 13) (tt 16))])
  (.cond (tt 17)
    .skip
    (.exit 0)))
  (.seq (.block 1 (.seq (.reg [
    pO 20 (.fieldAddr 3 (tt 2)),
    rO 21 (.load false 1 (tt 20)),
    pO 22 (.mv (tt 6)),
    pO 23 (.addrSl 3 (tt 21) (tt 22)),
    rO 24 (.load true 3 (tt 23)),
    fO 7 (.alloc [(.int .i64 0), (.bool false), (.int .u64 0)]),
    fN (.store 3 (tt 7) (tt 24))])
  (.seq (.reg [
    pO 25 (.fieldAddr 0 (tt 7)),
    rO 26 (.load false 1 (tt 25)),
    pO 27 (.int .geq .i64 (tt 26) (ii 0))])
  (.cond (tt 27)
    (.dreg [
      ⟨pO 28 (.mv (tt 5)), []⟩,
      ⟨pO 29 (.mv (tt 5)), []⟩,
      ⟨pO 30 (.nilCheck (tt 29)), []⟩,
      ⟨pO 31 (.fieldAddr 6 (tt 30)), []⟩,
      ⟨rO 32 (.load false 1 (tt 31)), [9, 10]⟩,
      ⟨pO 33 (.mv (tt 5)), []⟩,
      ⟨pO 34 (.fieldAddr 0 (tt 7)), []⟩,
      ⟨rO 35 (.load false 1 (tt 34)), []⟩,
      ⟨cO 36 (fu n_ref19_W_closure) [(tt 33), (tt 35)], []⟩,
      ⟨fO 37 (.buildSlice 1 1 [(.int .i64 0)] [(0, 1, (tt 36))]), []⟩,
      ⟨fO 38 (.append 1 8 (tt 32) (tt 37)), []⟩,
      ⟨pO 39 (.nilCheck (tt 28)), []⟩,
      ⟨pO 40 (.fieldAddr 6 (tt 39)), []⟩,
      ⟨fN (.store 1 (tt 40) (tt 38)), []⟩])
    (.dreg [
      ⟨pO 41 (.mv (tt 5)), []⟩,
      ⟨pO 42 (.mv (tt 5)), []⟩,
      ⟨pO 43 (.nilCheck (tt 42)), []⟩,
      ⟨pO 44 (.fieldAddr 6 (tt 43)), []⟩,
      ⟨rO 45 (.load false 1 (tt 44)), [9, 10]⟩,
      ⟨pO 46 (.mv (tt 5)), []⟩,
      ⟨pO 47 (.fieldAddr 1 (tt 7)), []⟩,
      ⟨rO 48 (.load true 2 (tt 47)), []⟩,
      ⟨cO 49 (fu n_ref19_W_number) [(tt 46), (tt 48)], []⟩,
      ⟨fO 50 (.buildSlice 1 1 [(.int .i64 0)] [(0, 1, (tt 49))]), []⟩,
      ⟨fO 51 (.append 1 8 (tt 45) (tt 50)), []⟩,
      ⟨pO 52 (.nilCheck (tt 41)), []⟩,
      ⟨pO 53 (.fieldAddr 6 (tt 52)), []⟩,
      ⟨fN (.store 1 (tt 53) (tt 51)), []⟩])))))
  (.reg [
    pO 18 (.mv (tt 6)),
    pO 19 (.int .add .i64 (tt 18) (ii 1)),
    pO 6 (.mv (tt 19))])))

noncomputable def b_ref19_New_L1 : XCode :=
  (.seq (.seq (.reg [
    pO 54 (.mv (tt 8)),
    pO 55 (.mv (tt 1)),
    pO 56 (.int .lss .i64 (tt 54) (tt 55))])
  (.cond (tt 56)
    .skip
    (.exit 2)))
  (.seq (.block 3 (.reg [
    pO 59 (.mv (tt 5)),
    pO 60 (.mv (tt 5)),
    pO 61 (.nilCheck (tt 60)),
    pO 62 (.fieldAddr 10 (tt 61)),
    rO 63 (.load false 1 (tt 62)),
    pO 64 (.build [(.int .i64 0), (.int .i64 0), (.int .i64 0), .nils, .nils, (.int .i64 0), (.int .i64 0)] [(5, 1, (ii 1))]),
    fO 65 (.buildSlice 7 1 [(.int .i64 0), (.int .i64 0), (.int .i64 0), .nils, .nils, (.int .i64 0), (.int .i64 0)] [(0, 7, (tt 64))]),
    fO 66 (.append 7 88 (tt 63) (tt 65)),
    pO 67 (.nilCheck (tt 59)),
    pO 68 (.fieldAddr 10 (tt 67)),
    fN (.store 1 (tt 68) (tt 66))]))
  (.reg [
    pO 57 (.mv (tt 8)),
    pO 58 (.int .add .i64 (tt 57) (ii 1)),
    pO 8 (.mv (tt 58))])))

/-- treadwheel/treadwheelref19.New -/
noncomputable def b_ref19_New : XCode :=
  (.seq (.reg [
    fO 2 (.box 5 (tt 0)),
    pO 4 (.mv (kc .nilp))])
  (.seq (.dreg [
    ⟨rO 9 (.load true 5 (tt 2)), [3]⟩,
    ⟨fO 10 (.mkSlice [(.int .i64 0), (.int .i64 0), .nils, (.int .u64 0)] 48 (ii 1) (ii 1)), []⟩,
    ⟨pO 11 (.build [.nils, .nils, .nils, .nils, (.int .i64 0), .nils, .nils, .nils, .nils, .nils, .nils] [(0, 5, (tt 9)), (5, 1, (tt 10))]), []⟩,
    ⟨fO 12 (.box 11 (tt 11)), []⟩,
    ⟨pO 5 (.mv (tt 12)), []⟩])
  (.seq (.seq (.reg [
    pO 6 (.mv (ii 0))])
  (.block 0 (.loop b_ref19_New_L0)))
  (.seq (.seq (.reg [
    pO 8 (.mv (ii 0))])
  (.block 2 (.loop b_ref19_New_L1)))
  (.seq (.reg [
    pO 69 (.mv (tt 5)),
    pO 4 (.mv (tt 69))])
  .ret)))))
theorem u_ref19_New (args : List AVal) (h : Heap) (hl : Nat.ble args.length 70 = true) : callF X n_ref19_New args h = outF (codeF X b_ref19_New (pa args 0 .leaf) h) [rt 4] false := x_callz (fn := ⟨70, [rt 4], b_ref19_New⟩) (by kernel_rfl) (by kernel_rfl) hl h

/-- (*treadwheel/heap.Heap).Get -/
noncomputable def b_heap_Heap_Get : XCode :=
  (.seq (.reg [
    pO 6 (.mv (ii 0)),
    pO 7 (.mv (ii 0))])
  (.seq (.reg [
    pO 11 (.mv (tt 0)),
    pO 12 (.mv (tt 1)),
    pO 13 (.mv (tt 2)),
    cO 14 (fu n_heap_Heap_word) [(tt 11), (tt 12), (tt 13)],
    pO 10 (.mv (tt 14)),
    pO 15 (.extract (tt 10) 0),
    pO 16 (.extract (tt 10) 1),
    pO 8 (.mv (tt 15)),
    pO 9 (.mv (tt 16))])
  (.seq (.seq (.reg [
    pO 17 (.mv (tt 9)),
    pO 18 (.int .neq .i64 (tt 17) (ii 0))])
  (.cond (tt 18)
    (.seq (.reg [
      pO 19 (.mv (tt 9)),
      pO 6 (.mv (ii 0)),
      pO 7 (.mv (tt 19))])
    .ret)
    .skip))
  (.seq (.reg [
    pO 20 (.mv (tt 0)),
    pO 21 (.nilCheck (tt 20)),
    pO 22 (.fieldAddr 0 (tt 21)),
    rO 23 (.load false 1 (tt 22)),
    pO 24 (.mv (tt 8)),
    cO 25 (fu n_arena_Arena_Load) [(tt 23), (tt 24)],
    pO 26 (.extract (tt 25) 0),
    pO 27 (.extract (tt 25) 1),
    pO 6 (.mv (tt 26)),
    pO 7 (.mv (tt 27))])
  .ret))))
theorem u_heap_Heap_Get (args : List AVal) (h : Heap) (hl : Nat.ble args.length 28 = true) : callF X n_heap_Heap_Get args h = outF (codeF X b_heap_Heap_Get (pa args 0 .leaf) h) [rt 6, rt 7] false := x_callz (fn := ⟨28, [rt 6, rt 7], b_heap_Heap_Get⟩) (by kernel_rfl) (by kernel_rfl) hl h

noncomputable def b_heap_right_L0 : XCode :=
  (.seq (.reg [
    pO 42 (.int .lss .i64 (tt 41) (tt 40))])
  (.seq (.cond (tt 42)
    .skip
    (.exit 0))
  (.seq (.block 1 (.seq (.reg [
    pO 43 (.addrSl 1 (tt 39) (tt 41)),
    rO 44 (.load false 1 (tt 43)),
    pO 5 (.mv (tt 44))])
  (.seq (.seq (.reg [
    pO 45 (.mv (tt 5)),
    pO 46 (.mv (tt 3)),
    pO 47 (.int .leq .i64 (tt 45) (tt 46)),
    pO 48 (.mv (tt 47)),
    gO 48 false (pO 49 (.mv (tt 5))),
    gO 48 false (pO 50 (.int .gtr .i64 (tt 49) (ii 24))),
    pO 51 (.pick (tt 48) (bb true) (tt 50))])
  (.cond (tt 51)
    (.seq (.reg [
      pO 2 (.mv (bb false))])
    .ret)
    .skip))
  (.reg [
    pO 52 (.mv (tt 5)),
    pO 3 (.mv (tt 52))]))))
  (.reg [
    pO 53 (.int .add .i64 (tt 41) (ii 1)),
    pO 41 (.mv (tt 53))]))))

/-- treadwheel/heap.right -/
noncomputable def b_heap_right : XCode :=
  (.seq (.reg [
    fO 1 (.box 7 (tt 0)),
    pO 2 (.mv (bb false))])
  (.seq (.seq (.reg [
    pO 6 (.fieldAddr 0 (tt 1)),
    rO 7 (.load false 1 (tt 6)),
    pO 8 (.int .lss .i64 (tt 7) (ii 1)),
    pO 9 (.mv (tt 8)),
    gO 9 false (pO 10 (.fieldAddr 0 (tt 1))),
    gO 9 false (rO 11 (.load false 1 (tt 10))),
    gO 9 false (pO 12 (.int .gtr .i64 (tt 11) (ii 65536))),
    pO 13 (.pick (tt 9) (bb true) (tt 12)),
    pO 14 (.mv (tt 13)),
    gO 14 false (pO 15 (.fieldAddr 1 (tt 1))),
    gO 14 false (rO 16 (.load false 1 (tt 15))),
    gO 14 false (pO 17 (.int .lss .i64 (tt 16) (ii 0))),
    pO 18 (.pick (tt 14) (bb true) (tt 17)),
    pO 19 (.mv (tt 18)),
    gO 19 false (pO 20 (.fieldAddr 1 (tt 1))),
    gO 19 false (rO 21 (.load false 1 (tt 20))),
    gO 19 false (pO 22 (.fieldAddr 0 (tt 1))),
    gO 19 false (rO 23 (.load false 1 (tt 22))),
    gO 19 false (pO 24 (.int .geq .i64 (tt 21) (tt 23))),
    pO 25 (.pick (tt 19) (bb true) (tt 24)),
    pO 26 (.mv (tt 25)),
    gO 26 false (pO 27 (.fieldAddr 6 (tt 1))),
    gO 26 false (rO 28 (.load false 1 (tt 27))),
    gO 26 false (pO 29 (.lenSl (tt 28))),
    gO 26 false (pO 30 (.int .lss .i64 (tt 29) (ii 1))),
    pO 31 (.pick (tt 26) (bb true) (tt 30)),
    pO 32 (.mv (tt 31)),
    gO 32 false (pO 33 (.fieldAddr 6 (tt 1))),
    gO 32 false (rO 34 (.load false 1 (tt 33))),
    gO 32 false (pO 35 (.lenSl (tt 34))),
    gO 32 false (pO 36 (.int .gtr .i64 (tt 35) (ii 6))),
    pO 37 (.pick (tt 32) (bb true) (tt 36))])
  (.cond (tt 37)
    (.seq (.reg [
      pO 2 (.mv (bb false))])
    .ret)
    .skip))
  (.seq (.reg [
    pO 3 (.mv (ii 0))])
  (.seq (.seq (.reg [
    pO 38 (.fieldAddr 6 (tt 1)),
    rO 39 (.load false 1 (tt 38)),
    pO 40 (.lenSl (tt 39)),
    pO 41 (.mv (ii 0))])
  (.block 0 (.loop b_heap_right_L0)))
  (.seq (.reg [
    pO 2 (.mv (bb true))])
  .ret)))))
theorem u_heap_right (args : List AVal) (h : Heap) (hl : Nat.ble args.length 54 = true) : callF X n_heap_right args h = outF (codeF X b_heap_right (pa args 0 .leaf) h) [rt 2] false := x_callz (fn := ⟨54, [rt 2], b_heap_right⟩) (by kernel_rfl) (by kernel_rfl) hl h

/-- treadwheel/arena.New -/
noncomputable def b_arena_New : XCode :=
  (.seq (.reg [
    pO 2 (.mv (kc .nilp)),
    pO 3 (.mv (ii 0))])
  (.seq (.seq (.reg [
    pO 4 (.mv (tt 0)),
    pO 5 (.int .lss .i64 (tt 4) (ii 1)),
    pO 6 (.mv (tt 5)),
    gO 6 false (pO 7 (.mv (tt 0))),
    gO 6 false (pO 8 (.int .gtr .i64 (tt 7) (ii 65536))),
    pO 9 (.pick (tt 6) (bb true) (tt 8))])
  (.cond (tt 9)
    (.seq (.reg [
      pO 2 (.mv (kc .nilp)),
      pO 3 (.mv (ii 1))])
    .ret)
    .skip))
  (.seq (.reg [
    pO 10 (.mv (tt 0)),
    fO 11 (.mkSlice [(.int .i64 0)] 8 (tt 10) (tt 10)),
    pO 12 (.build [.nils, (.int .i64 0)] [(0, 1, (tt 11))]),
    fO 13 (.box 2 (tt 12)),
    pO 2 (.mv (tt 13)),
    pO 3 (.mv (ii 0))])
  .ret)))
theorem u_arena_New (args : List AVal) (h : Heap) (hl : Nat.ble args.length 14 = true) : callF X n_arena_New args h = outF (codeF X b_arena_New (pa args 0 .leaf) h) [rt 2, rt 3] false := x_callz (fn := ⟨14, [rt 2, rt 3], b_arena_New⟩) (by kernel_rfl) (by kernel_rfl) hl h

/-- slices.Clone[[]int,int] -/
noncomputable def b_slices_Clone_int_int : XCode :=
  (.seq (.reg [
    pO 2 (.mv (kc .nils))])
  (.seq (.seq (.reg [
    pO 3 (.mv (tt 0)),
    pO 4 (.nileq false .sl false (tt 3) (kc .nils))])
  (.cond (tt 4)
    (.seq (.reg [
      pO 2 (.mv (kc .nils))])
    .ret)
    .skip))
  (.seq (.reg [
    fO 5 (.buildSlice 1 0 [(.int .i64 0)] []),
    pO 6 (.mv (tt 0)),
    fO 7 (.append 1 8 (tt 5) (tt 6)),
    pO 2 (.mv (tt 7))])
  .ret)))
theorem u_slices_Clone_int_int (args : List AVal) (h : Heap) (hl : Nat.ble args.length 8 = true) : callF X n_slices_Clone_int_int args h = outF (codeF X b_slices_Clone_int_int (pa args 0 .leaf) h) [rt 2] false := x_callz (fn := ⟨8, [rt 2], b_slices_Clone_int_int⟩) (by kernel_rfl) (by kernel_rfl) hl h

/-- treadwheel/ring.New -/
noncomputable def b_ring_New : XCode :=
  (.seq (.reg [
    pO 2 (.mv (kc .nilp))])
  (.seq (.reg [
    pO 3 (.mv (tt 0)),
    pO 4 (.build [.nilp, (.int .i64 0), (.int .i64 0), (.int .i64 0), (.int .i64 0), (.int .i64 0), (.int .i64 0)] [(0, 1, (tt 3))]),
    fO 5 (.box 7 (tt 4)),
    pO 2 (.mv (tt 5))])
  .ret))
theorem u_ring_New (args : List AVal) (h : Heap) (hl : Nat.ble args.length 6 = true) : callF X n_ring_New args h = outF (codeF X b_ring_New (pa args 0 .leaf) h) [rt 2] false := x_callz (fn := ⟨6, [rt 2], b_ring_New⟩) (by kernel_rfl) (by kernel_rfl) hl h

/-- treadwheel/extent.New -/
noncomputable def b_extent_New : XCode :=
  (.seq (.reg [
    pO 4 (.mv (kc .nilp)),
    pO 5 (.mv (ii 0))])
  (.seq (.seq (.reg [
    pO 7 (.mv (tt 0)),
    pO 8 (.int .lss .i64 (tt 7) (ii 0)),
    pO 9 (.mv (tt 8)),
    gO 9 false (pO 10 (.mv (tt 0))),
    gO 9 false (pO 11 (.int .gtr .i64 (tt 10) (ii 65536))),
    pO 12 (.pick (tt 9) (bb true) (tt 11)),
    pO 13 (.mv (tt 12)),
    gO 13 false (pO 14 (.mv (tt 1))),
    gO 13 false (pO 15 (.int .lss .i64 (tt 14) (ii 0))),
    pO 16 (.pick (tt 13) (bb true) (tt 15)),
    pO 17 (.mv (tt 16)),
    gO 17 false (pO 18 (.mv (tt 1))),
    gO 17 false (pO 19 (.int .gtr .i64 (tt 18) (ii 65536))),
    pO 20 (.pick (tt 17) (bb true) (tt 19))])
  (.cond (tt 20)
    (.seq (.reg [
      pO 4 (.mv (kc .nilp)),
      pO 5 (.mv (ii 1))])
    .ret)
    .skip))
  (.seq (.reg [
    pO 21 (.mv (tt 0)),
    pO 22 (.mv (tt 1)),
    pO 23 (.build [(.int .i64 0), (.int .i64 0), .nils] [(0, 1, (tt 21)), (1, 1, (tt 22))]),
    fO 24 (.box 3 (tt 23)),
    pO 6 (.mv (tt 24))])
  (.seq (.seq (.reg [
    pO 25 (.mv (tt 1)),
    pO 26 (.int .gtr .i64 (tt 25) (ii 0))])
  (.cond (tt 26)
    (.reg [
      pO 27 (.mv (tt 6)),
      pO 28 (.mv (tt 0)),
      pO 29 (.mv (tt 1)),
      pO 30 (.build [(.int .i64 0), (.int .i64 0)] [(0, 1, (tt 28)), (1, 1, (tt 29))]),
      fO 31 (.buildSlice 2 1 [(.int .i64 0), (.int .i64 0)] [(0, 2, (tt 30))]),
      pO 32 (.nilCheck (tt 27)),
      pO 33 (.fieldAddr 2 (tt 32)),
      fN (.store 1 (tt 33) (tt 31))])
    .skip))
  (.seq (.reg [
    pO 34 (.mv (tt 6)),
    pO 4 (.mv (tt 34)),
    pO 5 (.mv (ii 0))])
  .ret)))))
theorem u_extent_New (args : List AVal) (h : Heap) (hl : Nat.ble args.length 35 = true) : callF X n_extent_New args h = outF (codeF X b_extent_New (pa args 0 .leaf) h) [rt 4, rt 5] false := x_callz (fn := ⟨35, [rt 4, rt 5], b_extent_New⟩) (by kernel_rfl) (by kernel_rfl) hl h

noncomputable def b_code_Check_L0 : XCode :=
  (.seq (.reg [
    pO 25 (.int .lss .i64 (tt 24) (tt 23))])
  (.seq (.cond (tt 25)
    .skip
    (.exit 0))
  (.seq (.block 1 (.seq (.reg [
    pO 26 (.mv (tt 24)),
    pO 5 (.mv (tt 26))])
  (.seq (.reg [
    pO 27 (.mv (tt 4)),
    pO 28 (.mv (tt 5)),
    cO 29 (fu n_code_checker_code) [(tt 27), (tt 28)]])
  (.seq (.reg [
    pO 30 (.mv (tt 4)),
    pO 31 (.nilCheck (tt 30)),
    pO 32 (.fieldAddr 6 (tt 31)),
    rO 33 (.load false 1 (tt 32)),
    pO 34 (.int .neq .i64 (tt 33) (ii 0))])
  (.cond (tt 34)
    (.seq (.reg [
      pO 35 (.mv (tt 4)),
      pO 36 (.nilCheck (tt 35)),
      pO 37 (.fieldAddr 6 (tt 36)),
      rO 38 (.load false 1 (tt 37)),
      pO 39 (.mv (tt 5)),
      pO 2 (.mv (tt 38)),
      pO 3 (.mv (tt 39))])
    .ret)
    .skip)))))
  (.reg [
    pO 40 (.int .add .i64 (tt 24) (ii 1)),
    pO 24 (.mv (tt 40))]))))

/-- treadwheel/code.Check -/
noncomputable def b_code_Check : XCode :=
  (.seq (.reg [
    fO 1 (.box 5 (tt 0)),
    pO 2 (.mv (ii 0)),
    pO 3 (.mv (ii 0))])
  (.seq (.reg [
    rO 6 (.load true 5 (tt 1)),
    fO 7 (.mkMap),
    pO 8 (.build [.nils, .nils, .nils, .nils, (.int .i64 0), .nilmap, (.int .i64 0), (.int .i64 0)] [(0, 5, (tt 6)), (5, 1, (tt 7))]),
    fO 9 (.box 8 (tt 8)),
    pO 4 (.mv (tt 9))])
  (.seq (.seq (.reg [
    pO 10 (.mv (tt 4)),
    cO 11 (fu n_code_checker_roots) [(tt 10)]])
  (.seq (.reg [
    pO 12 (.mv (tt 4)),
    pO 13 (.nilCheck (tt 12)),
    pO 14 (.fieldAddr 6 (tt 13)),
    rO 15 (.load false 1 (tt 14)),
    pO 16 (.int .neq .i64 (tt 15) (ii 0))])
  (.cond (tt 16)
    (.seq (.reg [
      pO 17 (.mv (tt 4)),
      pO 18 (.nilCheck (tt 17)),
      pO 19 (.fieldAddr 6 (tt 18)),
      rO 20 (.load false 1 (tt 19)),
      pO 2 (.mv (tt 20)),
      pO 3 (.mv (ii (-1)))])
    .ret)
    .skip)))
  (.seq (.seq (.reg [
    pO 21 (.fieldAddr 1 (tt 1)),
    rO 22 (.load false 1 (tt 21)),
    pO 23 (.lenSl (tt 22)),
    pO 24 (.mv (ii 0))])
  (.block 0 (.loop b_code_Check_L0)))
  (.seq (.reg [
    pO 2 (.mv (ii 0)),
    pO 3 (.mv (ii 0))])
  .ret)))))
theorem u_code_Check (args : List AVal) (h : Heap) (hl : Nat.ble args.length 41 = true) : callF X n_code_Check args h = outF (codeF X b_code_Check (pa args 0 .leaf) h) [rt 2, rt 3] false := x_callz (fn := ⟨41, [rt 2, rt 3], b_code_Check⟩) (by kernel_rfl) (by kernel_rfl) hl h

/-- (*treadwheel/machine.World).closure -/
noncomputable def b_machine_World_closure : XCode :=
  (.seq (.reg [
    pO 4 (.mv (ii 0)),
    pO 5 (.mv (bb false))])
  (.seq (.reg [
    pO 8 (.mv (tt 0)),
    pO 9 (.nilCheck (tt 8)),
    pO 10 (.fieldAddr 0 (tt 9)),
    pO 11 (.fieldAddr 1 (tt 10)),
    rO 12 (.load false 1 (tt 11)),
    pO 13 (.mv (tt 1)),
    pO 14 (.addrSl 4 (tt 12) (tt 13)),
    rO 15 (.load true 4 (tt 14)),
    fO 6 (.alloc [(.str []), (.int .i64 0), (.int .i64 0), (.int .i64 0)]),
    fN (.store 4 (tt 6) (tt 15))])
  (.seq (.reg [
    pO 7 (.mv (ii 3))])
  (.seq (.seq (.reg [
    pO 16 (.fieldAddr 2 (tt 6)),
    rO 17 (.load false 1 (tt 16)),
    pO 18 (.int .eql .i64 (tt 17) (ii 0))])
  (.cond (tt 18)
    (.reg [
      pO 7 (.mv (ii 2))])
    .skip))
  (.seq (.reg [
    pO 19 (.mv (tt 0)),
    pO 20 (.mv (tt 7)),
    pO 21 (.mv (tt 1)),
    rO 22 (.load true 4 (tt 6)),
    cO 23 (fu n_machine_made) [(tt 22)],
    fO 24 (.mkSlice [(.int .i64 0)] 8 (tt 23) (tt 23)),
    cO 25 (fu n_machine_World_make) [(tt 19), (tt 20), (tt 21), (tt 24)],
    pO 26 (.extract (tt 25) 0),
    pO 27 (.extract (tt 25) 1),
    pO 4 (.mv (tt 26)),
    pO 5 (.mv (tt 27))])
  .ret)))))
theorem u_machine_World_closure (args : List AVal) (h : Heap) (hl : Nat.ble args.length 28 = true) : callF X n_machine_World_closure args h = outF (codeF X b_machine_World_closure (pa args 0 .leaf) h) [rt 4, rt 5] false := x_callz (fn := ⟨28, [rt 4, rt 5], b_machine_World_closure⟩) (by kernel_rfl) (by kernel_rfl) hl h

/-- (*treadwheel/machine.World).number -/
noncomputable def b_machine_World_number : XCode :=
  (.seq (.reg [
    fO 3 (.box 2 (tt 1)),
    pO 4 (.mv (ii 0)),
    pO 5 (.mv (bb false))])
  (.seq (.seq (.reg [
    pO 6 (.fieldAddr 0 (tt 3)),
    rO 7 (.load false 1 (tt 6))])
  (.cond (tt 7)
    (.seq (.reg [
      pO 8 (.mv (tt 0)),
      pO 9 (.fieldAddr 1 (tt 3)),
      rO 10 (.load false 1 (tt 9)),
      pO 11 (.toInt .i64 (tt 10)),
      fO 12 (.buildSlice 1 1 [(.int .i64 0)] [(0, 1, (tt 11))]),
      cO 13 (fu n_machine_World_make) [(tt 8), (ii 8), (ii 0), (tt 12)],
      pO 14 (.extract (tt 13) 0),
      pO 15 (.extract (tt 13) 1),
      pO 4 (.mv (tt 14)),
      pO 5 (.mv (tt 15))])
    .ret)
    .skip))
  (.seq (.reg [
    pO 16 (.mv (tt 0)),
    pO 17 (.fieldAddr 1 (tt 3)),
    rO 18 (.load false 1 (tt 17)),
    pO 19 (.toInt .i64 (tt 18)),
    fO 20 (.buildSlice 1 1 [(.int .i64 0)] [(0, 1, (tt 19))]),
    cO 21 (fu n_machine_World_make) [(tt 16), (ii 7), (ii 0), (tt 20)],
    pO 22 (.extract (tt 21) 0),
    pO 23 (.extract (tt 21) 1),
    pO 4 (.mv (tt 22)),
    pO 5 (.mv (tt 23))])
  .ret)))
theorem u_machine_World_number (args : List AVal) (h : Heap) (hl : Nat.ble args.length 24 = true) : callF X n_machine_World_number args h = outF (codeF X b_machine_World_number (pa args 0 .leaf) h) [rt 4, rt 5] false := x_callz (fn := ⟨24, [rt 4, rt 5], b_machine_World_number⟩) (by kernel_rfl) (by kernel_rfl) hl h

/-- treadwheel/cycle.New -/
noncomputable def b_cycle_New : XCode :=
  (.seq (.reg [
    pO 8 (.mv (kc .nilp))])
  (.seq (.reg [
    pO 10 (.mv (tt 0)),
    pO 11 (.mv (tt 0)),
    cO 12 (fu n_mark_New) [(tt 11)],
    pO 13 (.mv (tt 1)),
    cO 14 (fu n_slices_Clone_int64_int64) [(tt 13)],
    pO 15 (.mv (tt 2)),
    cO 16 (fu n_slices_Clone_stack_Stack_stack_Stack) [(tt 15)],
    pO 17 (.mv (tt 3)),
    pO 18 (.build [.nilp, .nilp, .nilp, .nils, .nils, .nilFunc, (.int .i64 0), (.int .i64 0), .nils, (.int .i64 0), .nils] [(0, 1, (tt 10)), (1, 1, (tt 12)), (3, 1, (tt 14)), (4, 1, (tt 16)), (5, 1, (tt 17))]),
    fO 19 (.box 11 (tt 18)),
    pO 9 (.mv (tt 19))])
  (.seq (.reg [
    pO 20 (.mv (tt 9)),
    pO 21 (.mv (tt 0)),
    pO 22 (.mv (tt 9)),
    pO 23 (.mkFunc n_cycle_Collector_Barrier [(tt 22)] []),
    cO 24 (fu n_weak_New) [(tt 21), (tt 23)],
    pO 25 (.nilCheck (tt 20)),
    pO 26 (.fieldAddr 2 (tt 25)),
    fN (.store 1 (tt 26) (tt 24))])
  (.seq (.reg [
    pO 27 (.mv (tt 9)),
    pO 8 (.mv (tt 27))])
  .ret))))
theorem u_cycle_New (args : List AVal) (h : Heap) (hl : Nat.ble args.length 28 = true) : callF X n_cycle_New args h = outF (codeF X b_cycle_New (pa args 0 .leaf) h) [rt 8] false := x_callz (fn := ⟨28, [rt 8], b_cycle_New⟩) (by kernel_rfl) (by kernel_rfl) hl h

noncomputable def b_ref14_C_roots_L0 : XCode :=
  (.seq (.seq (.reg [
    pO 7 (.mv (tt 2)),
    pO 8 (.mv (tt 0)),
    pO 9 (.nilCheck (tt 8)),
    pO 10 (.fieldAddr 0 (tt 9)),
    pO 11 (.fieldAddr 0 (tt 10)),
    rO 12 (.load false 1 (tt 11)),
    pO 13 (.lenSl (tt 12)),
    pO 14 (.int .lss .i64 (tt 7) (tt 13))])
  (.cond (tt 14)
    .skip
    (.exit 0)))
  (.seq (.block 1 (.reg [
    pO 17 (.mv (tt 0)),
    pO 18 (.mv (tt 0)),
    pO 19 (.nilCheck (tt 18)),
    pO 20 (.fieldAddr 0 (tt 19)),
    pO 21 (.fieldAddr 0 (tt 20)),
    rO 22 (.load false 1 (tt 21)),
    pO 23 (.mv (tt 2)),
    pO 24 (.addrSl 2 (tt 22) (tt 23)),
    pO 25 (.fieldAddr 1 (tt 24)),
    rO 26 (.load false 1 (tt 25)),
    pO 27 (.int .geq .i64 (tt 26) (ii 0)),
    pO 28 (.mv (tt 27)),
    gO 28 true (pO 29 (.mv (tt 0))),
    gO 28 true (pO 30 (.nilCheck (tt 29))),
    gO 28 true (pO 31 (.fieldAddr 0 (tt 30))),
    gO 28 true (pO 32 (.fieldAddr 0 (tt 31))),
    gO 28 true (rO 33 (.load false 1 (tt 32))),
    gO 28 true (pO 34 (.mv (tt 2))),
    gO 28 true (pO 35 (.addrSl 2 (tt 33) (tt 34))),
    gO 28 true (pO 36 (.fieldAddr 1 (tt 35))),
    gO 28 true (rO 37 (.load false 1 (tt 36))),
    gO 28 true (pO 38 (.int .leq .i64 (tt 37) (ii 24))),
    pO 39 (.pick (tt 28) (tt 38) (bb false)),
    cO 40 (fu n_ref14_C_need) [(tt 17), (tt 39), (ii 1)]]))
  (.reg [
    pO 15 (.mv (tt 2)),
    pO 16 (.int .add .i64 (tt 15) (ii 1)),
    pO 2 (.mv (tt 16))])))

noncomputable def b_ref14_C_roots_L1 : XCode :=
  (.seq (.seq (.reg [
    pO 41 (.mv (tt 3)),
    pO 42 (.mv (tt 0)),
    pO 43 (.nilCheck (tt 42)),
    pO 44 (.fieldAddr 0 (tt 43)),
    pO 45 (.fieldAddr 3 (tt 44)),
    rO 46 (.load false 1 (tt 45)),
    pO 47 (.lenSl (tt 46)),
    pO 48 (.int .lss .i64 (tt 41) (tt 47))])
  (.cond (tt 48)
    .skip
    (.exit 2)))
  (.seq (.block 3 (.seq (.reg [
    pO 51 (.mv (tt 0)),
    pO 52 (.nilCheck (tt 51)),
    pO 53 (.fieldAddr 0 (tt 52)),
    pO 54 (.fieldAddr 3 (tt 53)),
    rO 55 (.load false 1 (tt 54)),
    pO 56 (.mv (tt 3)),
    pO 57 (.addrSl 3 (tt 55) (tt 56)),
    rO 58 (.load true 3 (tt 57)),
    fO 4 (.alloc [(.int .i64 0), (.bool false), (.int .u64 0)]),
    fN (.store 3 (tt 4) (tt 58))])
  (.seq (.reg [
    pO 59 (.fieldAddr 0 (tt 4)),
    rO 60 (.load false 1 (tt 59)),
    pO 61 (.int .eql .i64 (tt 60) (ii (-1))),
    pO 5 (.mv (tt 61))])
  (.seq (.seq (.dreg (dl [
    pO 62 (.fieldAddr 0 (tt 4)),
    rO 63 (.load false 1 (tt 62)),
    pO 64 (.mv (tt 0)),
    pO 65 (.nilCheck (tt 64)),
    pO 66 (.fieldAddr 0 (tt 65)),
    pO 67 (.fieldAddr 1 (tt 66)),
    rO 68 (.load false 1 (tt 67)),
    pO 69 (.lenSl (tt 68)),
    cO 70 (fu n_ref14_below) [(tt 63), (tt 69)]]))
  (.cond (tt 70)
    (.dreg (dl [
      pO 71 (.mv (tt 0)),
      pO 72 (.nilCheck (tt 71)),
      pO 73 (.fieldAddr 0 (tt 72)),
      pO 74 (.fieldAddr 1 (tt 73)),
      rO 75 (.load false 1 (tt 74)),
      pO 76 (.fieldAddr 0 (tt 4)),
      rO 77 (.load false 1 (tt 76)),
      pO 78 (.addrSl 4 (tt 75) (tt 77)),
      pO 79 (.fieldAddr 1 (tt 78)),
      rO 80 (.load false 1 (tt 79)),
      pO 81 (.int .eql .i64 (tt 80) (ii 0)),
      pO 5 (.mv (tt 81))]))
    .skip))
  (.reg [
    pO 82 (.mv (tt 0)),
    pO 83 (.mv (tt 5)),
    cO 84 (fu n_ref14_C_need) [(tt 82), (tt 83), (ii 1)]])))))
  (.reg [
    pO 49 (.mv (tt 3)),
    pO 50 (.int .add .i64 (tt 49) (ii 1)),
    pO 3 (.mv (tt 50))])))

/-- (*treadwheel/treadwheelref14.C).roots -/
noncomputable def b_ref14_C_roots : XCode :=
  (.seq (.seq (.reg [
    pO 2 (.mv (ii 0))])
  (.block 0 (.loop b_ref14_C_roots_L0)))
  (.seq (.seq (.reg [
    pO 3 (.mv (ii 0))])
  (.block 2 (.loop b_ref14_C_roots_L1)))
  (.seq (.dreg (dl [
    pO 85 (.mv (tt 0)),
    pO 86 (.mv (tt 0)),
    pO 87 (.nilCheck (tt 86)),
    pO 88 (.fieldAddr 0 (tt 87)),
    pO 89 (.fieldAddr 4 (tt 88)),
    rO 90 (.load false 1 (tt 89)),
    pO 91 (.mv (tt 0)),
    pO 92 (.nilCheck (tt 91)),
    pO 93 (.fieldAddr 0 (tt 92)),
    pO 94 (.fieldAddr 3 (tt 93)),
    rO 95 (.load false 1 (tt 94)),
    pO 96 (.lenSl (tt 95)),
    cO 97 (fu n_ref14_below) [(tt 90), (tt 96)],
    cO 98 (fu n_ref14_C_need) [(tt 85), (tt 97), (ii 1)]]))
  (.seq (.reg [
    pO 99 (.mv (tt 0)),
    pO 100 (.nilCheck (tt 99)),
    pO 101 (.fieldAddr 7 (tt 100)),
    rO 102 (.load false 1 (tt 101)),
    pO 103 (.int .eql .i64 (tt 102) (ii 0))])
  (.cond (tt 103)
    (.seq (.dreg [
      ⟨pO 104 (.mv (tt 0)), []⟩,
      ⟨pO 105 (.nilCheck (tt 104)), []⟩,
      ⟨pO 106 (.fieldAddr 0 (tt 105)), []⟩,
      ⟨pO 107 (.fieldAddr 3 (tt 106)), []⟩,
      ⟨rO 108 (.load false 1 (tt 107)), [13]⟩,
      ⟨pO 109 (.mv (tt 0)), []⟩,
      ⟨pO 110 (.nilCheck (tt 109)), []⟩,
      ⟨pO 111 (.fieldAddr 0 (tt 110)), []⟩,
      ⟨pO 112 (.fieldAddr 4 (tt 111)), []⟩,
      ⟨rO 113 (.load false 1 (tt 112)), [13]⟩,
      ⟨pO 114 (.addrSl 3 (tt 108) (tt 113)), []⟩,
      ⟨rO 115 (.load true 3 (tt 114)), [13]⟩,
      ⟨fO 6 (.alloc [(.int .i64 0), (.bool false), (.int .u64 0)]), []⟩,
      ⟨fN (.store 3 (tt 6) (tt 115)), []⟩])
    (.seq (.reg [
      pO 116 (.mv (tt 0)),
      pO 117 (.fieldAddr 0 (tt 6)),
      rO 118 (.load false 1 (tt 117)),
      pO 119 (.int .geq .i64 (tt 118) (ii 0)),
      cO 120 (fu n_ref14_C_need) [(tt 116), (tt 119), (ii 1)]])
    (.seq (.reg [
      pO 121 (.mv (tt 0)),
      pO 122 (.nilCheck (tt 121)),
      pO 123 (.fieldAddr 7 (tt 122)),
      rO 124 (.load false 1 (tt 123)),
      pO 125 (.int .eql .i64 (tt 124) (ii 0))])
    (.cond (tt 125)
      (.dreg (dl [
        pO 126 (.mv (tt 0)),
        pO 127 (.mv (tt 0)),
        pO 128 (.nilCheck (tt 127)),
        pO 129 (.fieldAddr 0 (tt 128)),
        pO 130 (.fieldAddr 1 (tt 129)),
        rO 131 (.load false 1 (tt 130)),
        pO 132 (.fieldAddr 0 (tt 6)),
        rO 133 (.load false 1 (tt 132)),
        pO 134 (.addrSl 4 (tt 131) (tt 133)),
        pO 135 (.fieldAddr 2 (tt 134)),
        rO 136 (.load false 1 (tt 135)),
        pO 137 (.int .eql .i64 (tt 136) (ii 0)),
        cO 138 (fu n_ref14_C_need) [(tt 126), (tt 137), (ii 1)]]))
      .skip))))
    .skip)))))
theorem u_ref14_C_roots (args : List AVal) (h : Heap) (hl : Nat.ble args.length 139 = true) : callF X n_ref14_C_roots args h = outF (codeF X b_ref14_C_roots (pa args 0 .leaf) h) [] false := x_callz (fn := ⟨139, [], b_ref14_C_roots⟩) (by kernel_rfl) (by kernel_rfl) hl h

/-- (*treadwheel/treadwheelref14.C).code -/
noncomputable def b_ref14_C_code : XCode :=
  (.seq (.reg [
    pO 5 (.mv (tt 0)),
    pO 6 (.nilCheck (tt 5)),
    pO 7 (.fieldAddr 0 (tt 6)),
    pO 8 (.fieldAddr 1 (tt 7)),
    rO 9 (.load false 1 (tt 8)),
    pO 10 (.mv (tt 1)),
    pO 11 (.addrSl 4 (tt 9) (tt 10)),
    rO 12 (.load true 4 (tt 11)),
    fO 4 (.alloc [(.str []), (.int .i64 0), (.int .i64 0), (.int .i64 0)]),
    fN (.store 4 (tt 4) (tt 12))])
  (.seq (.reg [
    pO 13 (.mv (tt 0)),
    pO 14 (.fieldAddr 1 (tt 4)),
    rO 15 (.load false 1 (tt 14)),
    pO 16 (.int .geq .i64 (tt 15) (ii 0)),
    pO 17 (.mv (tt 16)),
    gO 17 true (pO 18 (.fieldAddr 1 (tt 4))),
    gO 17 true (rO 19 (.load false 1 (tt 18))),
    gO 17 true (pO 20 (.int .leq .i64 (tt 19) (ii 64))),
    pO 21 (.pick (tt 17) (tt 20) (bb false)),
    pO 22 (.mv (tt 21)),
    gO 22 true (pO 23 (.fieldAddr 2 (tt 4))),
    gO 22 true (rO 24 (.load false 1 (tt 23))),
    gO 22 true (pO 25 (.int .geq .i64 (tt 24) (ii 0))),
    pO 26 (.pick (tt 22) (tt 25) (bb false)),
    pO 27 (.mv (tt 26)),
    gO 27 true (pO 28 (.fieldAddr 2 (tt 4))),
    gO 27 true (rO 29 (.load false 1 (tt 28))),
    gO 27 true (pO 30 (.int .leq .i64 (tt 29) (ii 64))),
    pO 31 (.pick (tt 27) (tt 30) (bb false)),
    cO 32 (fu n_ref14_C_need) [(tt 13), (tt 31), (ii 1)]])
  (.dreg (dl [
    pO 33 (.mv (tt 0)),
    pO 34 (.fieldAddr 3 (tt 4)),
    rO 35 (.load false 1 (tt 34)),
    pO 36 (.mv (tt 0)),
    pO 37 (.nilCheck (tt 36)),
    pO 38 (.fieldAddr 0 (tt 37)),
    pO 39 (.fieldAddr 2 (tt 38)),
    rO 40 (.load false 1 (tt 39)),
    pO 41 (.lenSl (tt 40)),
    pO 42 (.fieldAddr 1 (tt 4)),
    rO 43 (.load false 1 (tt 42)),
    pO 44 (.fieldAddr 2 (tt 4)),
    rO 45 (.load false 1 (tt 44)),
    pO 46 (.int .add .i64 (tt 43) (tt 45)),
    cO 47 (fu n_ref14_C_kid) [(tt 33), (tt 35), (tt 41), (tt 46)]]))))
theorem u_ref14_C_code (args : List AVal) (h : Heap) (hl : Nat.ble args.length 48 = true) : callF X n_ref14_C_code args h = outF (codeF X b_ref14_C_code (pa args 0 .leaf) h) [] false := x_callz (fn := ⟨48, [], b_ref14_C_code⟩) (by kernel_rfl) (by kernel_rfl) hl h

noncomputable def b_code_Slots_L0 : XCode :=
  (.seq (.reg [
    pO 19 (.int .lss .i64 (tt 18) (tt 17))])
  (.seq (.cond (tt 19)
    .skip
    (.exit 0))
  (.seq (.block 1 (.seq (.reg [
    pO 20 (.mv (tt 18)),
    pO 6 (.mv (tt 20))])
  (.seq (.reg [
    rO 21 (.load true 5 (tt 1)),
    fO 22 (.mkMap),
    pO 23 (.build [.nils, .nils, .nils, .nils, (.int .i64 0), .nilmap, (.int .i64 0), (.int .i64 0)] [(0, 5, (tt 21)), (5, 1, (tt 22))]),
    fO 24 (.box 8 (tt 23)),
    pO 7 (.mv (tt 24))])
  (.seq (.reg [
    pO 25 (.mv (tt 7)),
    pO 26 (.mv (tt 6)),
    cO 27 (fu n_code_checker_code) [(tt 25), (tt 26)]])
  (.reg [
    pO 28 (.mv (tt 5)),
    pO 29 (.mv (tt 7)),
    pO 30 (.nilCheck (tt 29)),
    pO 31 (.fieldAddr 7 (tt 30)),
    rO 32 (.load false 1 (tt 31)),
    fO 33 (.buildSlice 1 1 [(.int .i64 0)] [(0, 1, (tt 32))]),
    fO 34 (.append 1 8 (tt 28) (tt 33)),
    pO 5 (.mv (tt 34))])))))
  (.reg [
    pO 35 (.int .add .i64 (tt 18) (ii 1)),
    pO 18 (.mv (tt 35))]))))

/-- treadwheel/code.Slots -/
noncomputable def b_code_Slots : XCode :=
  (.seq (.reg [
    fO 1 (.box 5 (tt 0)),
    pO 2 (.mv (kc .nils))])
  (.seq (.seq (.reg [
    rO 9 (.load true 5 (tt 1)),
    cO 10 (fu n_code_Check) [(tt 9)],
    pO 8 (.mv (tt 10)),
    pO 11 (.extract (tt 8) 0),
    pO 12 (.extract (tt 8) 1),
    pO 3 (.mv (tt 11)),
    pO 4 (.mv (tt 12))])
  (.seq (.reg [
    pO 13 (.mv (tt 3)),
    pO 14 (.int .neq .i64 (tt 13) (ii 0))])
  (.cond (tt 14)
    (.seq (.reg [
      pO 2 (.mv (kc .nils))])
    .ret)
    .skip)))
  (.seq (.reg [
    pO 5 (.mv (kc .nils))])
  (.seq (.seq (.reg [
    pO 15 (.fieldAddr 1 (tt 1)),
    rO 16 (.load false 1 (tt 15)),
    pO 17 (.lenSl (tt 16)),
    pO 18 (.mv (ii 0))])
  (.block 0 (.loop b_code_Slots_L0)))
  (.seq (.reg [
    pO 36 (.mv (tt 5)),
    pO 2 (.mv (tt 36))])
  .ret)))))
theorem u_code_Slots (args : List AVal) (h : Heap) (hl : Nat.ble args.length 37 = true) : callF X n_code_Slots args h = outF (codeF X b_code_Slots (pa args 0 .leaf) h) [rt 2] false := x_callz (fn := ⟨37, [rt 2], b_code_Slots⟩) (by kernel_rfl) (by kernel_rfl) hl h

/-- (*treadwheel/treadwheellaw19.match).one -/
noncomputable def b_law19_match_one : XCode :=
  (.seq (.reg [
    pO 6 (.mv (bb false))])
  (.seq (.seq (.reg [
    pO 9 (.mv (tt 1)),
    pO 10 (.int .eql .i64 (tt 9) (ii 0)),
    pO 11 (.mv (tt 10)),
    gO 11 false (pO 12 (.mv (tt 2))),
    gO 11 false (pO 13 (.int .eql .i64 (tt 12) (ii 0))),
    pO 14 (.pick (tt 11) (bb true) (tt 13))])
  (.cond (tt 14)
    (.seq (.reg [
      pO 15 (.mv (tt 1)),
      pO 16 (.int .eql .i64 (tt 15) (ii 0)),
      pO 17 (.mv (tt 16)),
      gO 17 true (pO 18 (.mv (tt 2))),
      gO 17 true (pO 19 (.int .eql .i64 (tt 18) (ii 0))),
      pO 20 (.pick (tt 17) (tt 19) (bb false)),
      pO 6 (.mv (tt 20))])
    .ret)
    .skip))
  (.seq (.seq (.reg [
    pO 22 (.mv (tt 0)),
    pO 23 (.nilCheck (tt 22)),
    pO 24 (.fieldAddr 2 (tt 23)),
    rO 25 (.load false 1 (tt 24)),
    pO 26 (.mv (tt 1)),
    rO 27 (.lookup false [.num .i64] (.int .i64 0) true (tt 25) (tt 26)),
    pO 21 (.mv (tt 27)),
    pO 28 (.extract (tt 21) 0),
    pO 29 (.extract (tt 21) 1),
    pO 7 (.mv (tt 28)),
    pO 8 (.mv (tt 29))])
  (.seq (.reg [
    pO 30 (.mv (tt 8)),
    pO 31 (.mv (tt 30)),
    gO 31 false (pO 32 (.mv (tt 0))),
    gO 31 false (pO 33 (.nilCheck (tt 32))),
    gO 31 false (pO 34 (.fieldAddr 3 (tt 33))),
    gO 31 false (rO 35 (.load false 1 (tt 34))),
    gO 31 false (pO 36 (.mv (tt 2))),
    gO 31 false (rO 37 (.lookup false [.num .i64] (.int .i64 0) false (tt 35) (tt 36))),
    gO 31 false (pO 38 (.int .neq .i64 (tt 37) (ii 0))),
    pO 39 (.pick (tt 31) (bb true) (tt 38))])
  (.cond (tt 39)
    (.seq (.reg [
      pO 40 (.mv (tt 7)),
      pO 41 (.mv (tt 2)),
      pO 42 (.int .eql .i64 (tt 40) (tt 41)),
      pO 43 (.mv (tt 42)),
      gO 43 true (pO 44 (.mv (tt 0))),
      gO 43 true (pO 45 (.nilCheck (tt 44))),
      gO 43 true (pO 46 (.fieldAddr 3 (tt 45))),
      gO 43 true (rO 47 (.load false 1 (tt 46))),
      gO 43 true (pO 48 (.mv (tt 2))),
      gO 43 true (rO 49 (.lookup false [.num .i64] (.int .i64 0) false (tt 47) (tt 48))),
      gO 43 true (pO 50 (.mv (tt 1))),
      gO 43 true (pO 51 (.int .eql .i64 (tt 49) (tt 50))),
      pO 52 (.pick (tt 43) (tt 51) (bb false)),
      pO 6 (.mv (tt 52))])
    .ret)
    .skip)))
  (.seq (.reg [
    pO 53 (.mv (tt 0)),
    pO 54 (.nilCheck (tt 53)),
    pO 55 (.fieldAddr 2 (tt 54)),
    rO 56 (.load false 1 (tt 55)),
    pO 57 (.mv (tt 1)),
    pO 58 (.mv (tt 2)),
    fN (.mapUpdate false [.num .i64] (tt 56) (tt 57) (tt 58))])
  (.seq (.reg [
    pO 59 (.mv (tt 0)),
    pO 60 (.nilCheck (tt 59)),
    pO 61 (.fieldAddr 3 (tt 60)),
    rO 62 (.load false 1 (tt 61)),
    pO 63 (.mv (tt 2)),
    pO 64 (.mv (tt 1)),
    fN (.mapUpdate false [.num .i64] (tt 62) (tt 63) (tt 64))])
  (.seq (.reg [
    pO 65 (.mv (tt 0)),
    pO 66 (.mv (tt 1)),
    pO 67 (.mv (tt 0)),
    pO 68 (.nilCheck (tt 67)),
    pO 69 (.fieldAddr 1 (tt 68)),
    rO 70 (.load false 1 (tt 69)),
    pO 71 (.nilCheck (tt 70)),
    pO 72 (.fieldAddr 5 (tt 71)),
    rO 73 (.load false 1 (tt 72)),
    pO 74 (.mv (tt 2)),
    pO 75 (.addrSl 4 (tt 73) (tt 74)),
    rO 76 (.load true 4 (tt 75)),
    cO 77 (fu n_law19_match_object) [(tt 65), (tt 66), (tt 76)],
    pO 6 (.mv (tt 77))])
  .ret))))))
theorem u_law19_match_one (args : List AVal) (h : Heap) (hl : Nat.ble args.length 78 = true) : callF X n_law19_match_one args h = outF (codeF X b_law19_match_one (pa args 0 .leaf) h) [rt 6] false := x_callz (fn := ⟨78, [rt 6], b_law19_match_one⟩) (by kernel_rfl) (by kernel_rfl) hl h

/-- (*treadwheel/treadwheelref19.W).closure -/
noncomputable def b_ref19_W_closure : XCode :=
  (.seq (.reg [
    pO 4 (.mv (ii 0))])
  (.seq (.reg [
    pO 7 (.mv (tt 0)),
    pO 8 (.nilCheck (tt 7)),
    pO 9 (.fieldAddr 0 (tt 8)),
    pO 10 (.fieldAddr 1 (tt 9)),
    rO 11 (.load false 1 (tt 10)),
    pO 12 (.mv (tt 1)),
    pO 13 (.addrSl 4 (tt 11) (tt 12)),
    rO 14 (.load true 4 (tt 13)),
    fO 5 (.alloc [(.str []), (.int .i64 0), (.int .i64 0), (.int .i64 0)]),
    fN (.store 4 (tt 5) (tt 14))])
  (.seq (.reg [
    pO 6 (.mv (ii 3))])
  (.seq (.seq (.reg [
    pO 15 (.fieldAddr 2 (tt 5)),
    rO 16 (.load false 1 (tt 15)),
    pO 17 (.int .eql .i64 (tt 16) (ii 0))])
  (.cond (tt 17)
    (.reg [
      pO 6 (.mv (ii 2))])
    .skip))
  (.seq (.reg [
    pO 18 (.mv (tt 0)),
    pO 19 (.mv (tt 6)),
    pO 20 (.mv (tt 1)),
    rO 21 (.load true 4 (tt 5)),
    cO 22 (fu n_ref19_size) [(tt 21)],
    fO 23 (.mkSlice [(.int .i64 0)] 8 (tt 22) (tt 22)),
    pO 24 (.build [(.int .i64 0), (.int .i64 0), .nils, (.int .u64 0)] [(0, 1, (tt 19)), (1, 1, (tt 20)), (2, 1, (tt 23))]),
    cO 25 (fu n_ref19_W_make) [(tt 18), (tt 24)],
    pO 4 (.mv (tt 25))])
  .ret)))))
theorem u_ref19_W_closure (args : List AVal) (h : Heap) (hl : Nat.ble args.length 26 = true) : callF X n_ref19_W_closure args h = outF (codeF X b_ref19_W_closure (pa args 0 .leaf) h) [rt 4] false := x_callz (fn := ⟨26, [rt 4], b_ref19_W_closure⟩) (by kernel_rfl) (by kernel_rfl) hl h

/-- (*treadwheel/treadwheelref19.W).number -/
noncomputable def b_ref19_W_number : XCode :=
  (.seq (.reg [
    fO 3 (.box 2 (tt 1)),
    pO 4 (.mv (ii 0))])
  (.seq (.seq (.reg [
    pO 5 (.fieldAddr 0 (tt 3)),
    rO 6 (.load false 1 (tt 5))])
  (.cond (tt 6)
    (.seq (.reg [
      pO 7 (.mv (tt 0)),
      pO 8 (.fieldAddr 1 (tt 3)),
      rO 9 (.load false 1 (tt 8)),
      pO 10 (.build [(.int .i64 0), (.int .i64 0), .nils, (.int .u64 0)] [(0, 1, (ii 8)), (3, 1, (tt 9))]),
      cO 11 (fu n_ref19_W_make) [(tt 7), (tt 10)],
      pO 4 (.mv (tt 11))])
    .ret)
    .skip))
  (.seq (.reg [
    pO 12 (.mv (tt 0)),
    pO 13 (.fieldAddr 1 (tt 3)),
    rO 14 (.load false 1 (tt 13)),
    pO 15 (.build [(.int .i64 0), (.int .i64 0), .nils, (.int .u64 0)] [(0, 1, (ii 7)), (3, 1, (tt 14))]),
    cO 16 (fu n_ref19_W_make) [(tt 12), (tt 15)],
    pO 4 (.mv (tt 16))])
  .ret)))
theorem u_ref19_W_number (args : List AVal) (h : Heap) (hl : Nat.ble args.length 17 = true) : callF X n_ref19_W_number args h = outF (codeF X b_ref19_W_number (pa args 0 .leaf) h) [rt 4] false := x_callz (fn := ⟨17, [rt 4], b_ref19_W_number⟩) (by kernel_rfl) (by kernel_rfl) hl h

/-- (*treadwheel/heap.Heap).word -/
noncomputable def b_heap_Heap_word : XCode :=
  (.seq (.reg [
    pO 6 (.mv (ii 0)),
    pO 7 (.mv (ii 0))])
  (.seq (.reg [
    pO 11 (.mv (tt 0)),
    pO 12 (.mv (tt 1)),
    cO 13 (fu n_heap_Heap_Cell) [(tt 11), (tt 12)],
    pO 10 (.mv (tt 13)),
    pO 14 (.extract (tt 10) 0),
    pO 15 (.extract (tt 10) 1),
    fO 8 (.alloc [(.int .i64 0), (.int .i64 0), (.int .i64 0), (.int .i64 0)]),
    fN (.store 4 (tt 8) (tt 14)),
    pO 9 (.mv (tt 15))])
  (.seq (.block 0 (.seq (.reg [
    pO 17 (.mv (tt 9)),
    pO 18 (.int .neq .i64 (tt 17) (ii 0)),
    pO 16 (.mv (tt 18))])
  (.cond (tt 16)
    (.seq (.reg [
      pO 19 (.mv (tt 9)),
      pO 6 (.mv (ii 0)),
      pO 7 (.mv (tt 19))])
    .ret)
    (.seq (.reg [
      pO 21 (.mv (tt 2)),
      pO 22 (.int .lss .i64 (tt 21) (ii 0)),
      pO 23 (.mv (tt 22)),
      gO 23 false (pO 24 (.mv (tt 2))),
      gO 23 false (pO 25 (.fieldAddr 1 (tt 8))),
      gO 23 false (rO 26 (.load false 1 (tt 25))),
      gO 23 false (pO 27 (.int .geq .i64 (tt 24) (tt 26))),
      pO 28 (.pick (tt 23) (bb true) (tt 27)),
      pO 20 (.mv (tt 28))])
    (.cond (tt 20)
      (.seq (.reg [
        pO 6 (.mv (ii 0)),
        pO 7 (.mv (ii 1))])
      .ret)
      .skip)))))
  (.seq (.reg [
    pO 29 (.mv (tt 1)),
    pO 30 (.int .add .i64 (tt 29) (ii 3)),
    pO 31 (.mv (tt 2)),
    pO 32 (.int .add .i64 (tt 30) (tt 31)),
    pO 6 (.mv (tt 32)),
    pO 7 (.mv (ii 0))])
  .ret))))
theorem u_heap_Heap_word (args : List AVal) (h : Heap) (hl : Nat.ble args.length 33 = true) : callF X n_heap_Heap_word args h = outF (codeF X b_heap_Heap_word (pa args 0 .leaf) h) [rt 6, rt 7] false := x_callz (fn := ⟨33, [rt 6, rt 7], b_heap_Heap_word⟩) (by kernel_rfl) (by kernel_rfl) hl h

/-- (*treadwheel/arena.Arena).Load -/
noncomputable def b_arena_Arena_Load : XCode :=
  (.seq (.reg [
    pO 4 (.mv (ii 0)),
    pO 5 (.mv (ii 0))])
  (.seq (.reg [
    fO 6 (.alloc [(.int .i64 0)]),
    fN (.store 1 (tt 6) (ii 0))])
  (.seq (.reg [
    pO 8 (.mv (tt 0)),
    pO 9 (.mv (tt 1)),
    pO 10 (.mkFunc n_arena_Arena_Load_1 [] [(tt 6)]),
    cO 11 (fu n_arena_Arena_use) [(tt 8), (tt 9), (tt 10)],
    pO 7 (.mv (tt 11))])
  (.seq (.reg [
    rO 12 (.load false 1 (tt 6)),
    pO 13 (.mv (tt 7)),
    pO 4 (.mv (tt 12)),
    pO 5 (.mv (tt 13))])
  .ret))))
theorem u_arena_Arena_Load (args : List AVal) (h : Heap) (hl : Nat.ble args.length 14 = true) : callF X n_arena_Arena_Load args h = outF (codeF X b_arena_Arena_Load (pa args 0 .leaf) h) [rt 4, rt 5] false := x_callz (fn := ⟨14, [rt 4, rt 5], b_arena_Arena_Load⟩) (by kernel_rfl) (by kernel_rfl) hl h

/-- treadwheel/treadwheelref19.max -/
noncomputable def b_ref19_max : XCode :=
  (.seq (.reg [
    pO 4 (.mv (ii 0))])
  (.seq (.seq (.reg [
    pO 5 (.mv (tt 0)),
    pO 6 (.mv (tt 1)),
    pO 7 (.int .gtr .i64 (tt 5) (tt 6))])
  (.cond (tt 7)
    (.seq (.reg [
      pO 8 (.mv (tt 0)),
      pO 4 (.mv (tt 8))])
    .ret)
    .skip))
  (.seq (.reg [
    pO 9 (.mv (tt 1)),
    pO 4 (.mv (tt 9))])
  .ret)))
theorem u_ref19_max (args : List AVal) (h : Heap) (hl : Nat.ble args.length 10 = true) : callF X n_ref19_max args h = outF (codeF X b_ref19_max (pa args 0 .leaf) h) [rt 4] false := x_callz (fn := ⟨10, [rt 4], b_ref19_max⟩) (by kernel_rfl) (by kernel_rfl) hl h

/-- treadwheel/treadwheelref19.size -/
noncomputable def b_ref19_size : XCode :=
  (.seq (.reg [
    fO 1 (.box 4 (tt 0)),
    pO 2 (.mv (ii 0))])
  (.seq (.seq (.reg [
    pO 3 (.fieldAddr 2 (tt 1)),
    rO 4 (.load false 1 (tt 3)),
    pO 5 (.int .eql .i64 (tt 4) (ii 0))])
  (.cond (tt 5)
    (.seq (.reg [
      pO 6 (.fieldAddr 1 (tt 1)),
      rO 7 (.load false 1 (tt 6)),
      cO 8 (fu n_ref19_max) [(tt 7), (ii 1)],
      pO 2 (.mv (tt 8))])
    .ret)
    .skip))
  (.seq (.reg [
    pO 9 (.fieldAddr 1 (tt 1)),
    rO 10 (.load false 1 (tt 9)),
    pO 2 (.mv (tt 10))])
  .ret)))
theorem u_ref19_size (args : List AVal) (h : Heap) (hl : Nat.ble args.length 11 = true) : callF X n_ref19_size args h = outF (codeF X b_ref19_size (pa args 0 .leaf) h) [rt 2] false := x_callz (fn := ⟨11, [rt 2], b_ref19_size⟩) (by kernel_rfl) (by kernel_rfl) hl h

noncomputable def b_machine_World_make_L0 : XCode :=
  (.seq (.reg [
    pO 45 (.int .lss .i64 (tt 44) (tt 43))])
  (.seq (.cond (tt 45)
    .skip
    (.exit 0))
  (.seq (.block 1 (.seq (.reg [
    pO 46 (.mv (tt 44)),
    pO 47 (.addrSl 1 (tt 42) (tt 44)),
    rO 48 (.load false 1 (tt 47)),
    pO 12 (.mv (tt 46)),
    pO 13 (.mv (tt 48))])
  (.reg [
    pO 49 (.mv (tt 0)),
    pO 50 (.nilCheck (tt 49)),
    pO 51 (.fieldAddr 5 (tt 50)),
    rO 52 (.load false 1 (tt 51)),
    pO 53 (.mv (tt 10)),
    pO 54 (.mv (tt 12)),
    pO 55 (.mv (tt 13)),
    cO 56 (fu n_heap_Heap_Set) [(tt 52), (tt 53), (tt 54), (tt 55)]])))
  (.reg [
    pO 57 (.int .add .i64 (tt 44) (ii 1)),
    pO 44 (.mv (tt 57))]))))

/-- (*treadwheel/machine.World).make -/
noncomputable def b_machine_World_make : XCode :=
  (.seq (.reg [
    pO 8 (.mv (ii 0)),
    pO 9 (.mv (bb false))])
  (.seq (.reg [
    pO 15 (.mv (tt 0)),
    pO 16 (.nilCheck (tt 15)),
    pO 17 (.fieldAddr 5 (tt 16)),
    rO 18 (.load false 1 (tt 17)),
    pO 19 (.mv (tt 1)),
    pO 20 (.mv (tt 2)),
    pO 21 (.mv (tt 3)),
    pO 22 (.lenSl (tt 21)),
    cO 23 (fu n_heap_Heap_Alloc) [(tt 18), (tt 19), (tt 20), (tt 22)],
    pO 14 (.mv (tt 23)),
    pO 24 (.extract (tt 14) 0),
    pO 25 (.extract (tt 14) 1),
    pO 10 (.mv (tt 24)),
    pO 11 (.mv (tt 25))])
  (.seq (.seq (.reg [
    pO 26 (.mv (tt 11)),
    pO 27 (.int .neq .i64 (tt 26) (ii 0))])
  (.cond (tt 27)
    (.seq (.reg [
      pO 8 (.mv (ii 0)),
      pO 9 (.mv (bb false))])
    .ret)
    .skip))
  (.seq (.dreg [
    ⟨pO 28 (.mv (tt 0)), []⟩,
    ⟨pO 29 (.nilCheck (tt 28)), []⟩,
    ⟨pO 30 (.fieldAddr 8 (tt 29)), []⟩,
    ⟨rO 31 (.load false 1 (tt 30)), [14]⟩,
    ⟨pO 32 (.mv (tt 0)), []⟩,
    ⟨pO 33 (.nilCheck (tt 32)), []⟩,
    ⟨pO 34 (.fieldAddr 5 (tt 33)), []⟩,
    ⟨rO 35 (.load false 1 (tt 34)), []⟩,
    ⟨pO 36 (.mv (tt 3)), []⟩,
    ⟨pO 37 (.lenSl (tt 36)), []⟩,
    ⟨cO 38 (fu n_heap_Heap_Round) [(tt 35), (tt 37)], []⟩,
    ⟨pO 39 (.int .add .i64 (tt 31) (tt 38)), []⟩,
    ⟨pO 40 (.nilCheck (tt 28)), []⟩,
    ⟨pO 41 (.fieldAddr 8 (tt 40)), []⟩,
    ⟨fN (.store 1 (tt 41) (tt 39)), []⟩])
  (.seq (.seq (.reg [
    pO 42 (.mv (tt 3)),
    pO 43 (.lenSl (tt 42)),
    pO 44 (.mv (ii 0))])
  (.block 0 (.loop b_machine_World_make_L0)))
  (.seq (.reg [
    pO 58 (.mv (tt 10)),
    pO 8 (.mv (tt 58)),
    pO 9 (.mv (bb true))])
  .ret))))))
theorem u_machine_World_make (args : List AVal) (h : Heap) (hl : Nat.ble args.length 59 = true) : callF X n_machine_World_make args h = outF (codeF X b_machine_World_make (pa args 0 .leaf) h) [rt 8, rt 9] false := x_callz (fn := ⟨59, [rt 8, rt 9], b_machine_World_make⟩) (by kernel_rfl) (by kernel_rfl) hl h

/-- (*treadwheel/heap.Heap).Set -/
noncomputable def b_heap_Heap_Set : XCode :=
  (.seq (.reg [
    pO 8 (.mv (ii 0))])
  (.seq (.reg [
    pO 12 (.mv (tt 0)),
    pO 13 (.mv (tt 1)),
    pO 14 (.mv (tt 2)),
    cO 15 (fu n_heap_Heap_word) [(tt 12), (tt 13), (tt 14)],
    pO 11 (.mv (tt 15)),
    pO 16 (.extract (tt 11) 0),
    pO 17 (.extract (tt 11) 1),
    pO 9 (.mv (tt 16)),
    pO 10 (.mv (tt 17))])
  (.seq (.seq (.reg [
    pO 18 (.mv (tt 10)),
    pO 19 (.int .neq .i64 (tt 18) (ii 0))])
  (.cond (tt 19)
    (.seq (.reg [
      pO 20 (.mv (tt 10)),
      pO 8 (.mv (tt 20))])
    .ret)
    .skip))
  (.seq (.reg [
    pO 21 (.mv (tt 0)),
    pO 22 (.nilCheck (tt 21)),
    pO 23 (.fieldAddr 0 (tt 22)),
    rO 24 (.load false 1 (tt 23)),
    pO 25 (.mv (tt 9)),
    pO 26 (.mv (tt 3)),
    cO 27 (fu n_arena_Arena_Store) [(tt 24), (tt 25), (tt 26)],
    pO 8 (.mv (tt 27))])
  .ret))))
theorem u_heap_Heap_Set (args : List AVal) (h : Heap) (hl : Nat.ble args.length 28 = true) : callF X n_heap_Heap_Set args h = outF (codeF X b_heap_Heap_Set (pa args 0 .leaf) h) [rt 8] false := x_callz (fn := ⟨28, [rt 8], b_heap_Heap_Set⟩) (by kernel_rfl) (by kernel_rfl) hl h

noncomputable def b_code_checker_roots_L0 : XCode :=
  (.seq (.reg [
    pO 13 (.int .lss .i64 (tt 12) (tt 11))])
  (.seq (.cond (tt 13)
    .skip
    (.exit 0))
  (.seq (.block 1 (.seq (.reg [
    pO 14 (.addrSl 2 (tt 10) (tt 12)),
    rO 15 (.load true 2 (tt 14)),
    fO 3 (.alloc [(.str []), (.int .i64 0)]),
    fN (.store 2 (tt 3) (tt 15))])
  (.reg [
    pO 16 (.mv (tt 0)),
    pO 17 (.fieldAddr 1 (tt 3)),
    rO 18 (.load false 1 (tt 17)),
    pO 19 (.int .geq .i64 (tt 18) (ii 0)),
    pO 20 (.mv (tt 19)),
    gO 20 true (pO 21 (.fieldAddr 1 (tt 3))),
    gO 20 true (rO 22 (.load false 1 (tt 21))),
    gO 20 true (pO 23 (.int .leq .i64 (tt 22) (ii 24))),
    pO 24 (.pick (tt 20) (tt 23) (bb false)),
    cO 25 (fu n_code_checker_ask) [(tt 16), (tt 24), (ii 1)]])))
  (.reg [
    pO 26 (.int .add .i64 (tt 12) (ii 1)),
    pO 12 (.mv (tt 26))]))))

noncomputable def b_code_checker_roots_L1 : XCode :=
  (.seq (.reg [
    pO 34 (.int .lss .i64 (tt 33) (tt 32))])
  (.seq (.cond (tt 34)
    .skip
    (.exit 2))
  (.seq (.block 3 (.seq (.reg [
    pO 35 (.addrSl 3 (tt 31) (tt 33)),
    rO 36 (.load true 3 (tt 35)),
    fO 5 (.alloc [(.int .i64 0), (.bool false), (.int .u64 0)]),
    fN (.store 3 (tt 5) (tt 36))])
  (.dreg (dl [
    pO 37 (.mv (tt 0)),
    pO 38 (.fieldAddr 0 (tt 5)),
    rO 39 (.load false 1 (tt 38)),
    pO 40 (.int .eql .i64 (tt 39) (ii (-1))),
    pO 41 (.mv (tt 40)),
    gO 41 false (pO 42 (.fieldAddr 0 (tt 5))),
    gO 41 false (rO 43 (.load false 1 (tt 42))),
    gO 41 false (pO 44 (.mv (tt 0))),
    gO 41 false (pO 45 (.nilCheck (tt 44))),
    gO 41 false (pO 46 (.fieldAddr 0 (tt 45))),
    gO 41 false (pO 47 (.fieldAddr 1 (tt 46))),
    gO 41 false (rO 48 (.load false 1 (tt 47))),
    gO 41 false (pO 49 (.lenSl (tt 48))),
    gO 41 false (cO 50 (fu n_code_in) [(tt 43), (tt 49)]),
    gO 41 false (pO 51 (.mv (tt 50))),
    gO 51 true (pO 52 (.mv (tt 0))),
    gO 51 true (pO 53 (.nilCheck (tt 52))),
    gO 51 true (pO 54 (.fieldAddr 0 (tt 53))),
    gO 51 true (pO 55 (.fieldAddr 1 (tt 54))),
    gO 51 true (rO 56 (.load false 1 (tt 55))),
    gO 51 true (pO 57 (.fieldAddr 0 (tt 5))),
    gO 51 true (rO 58 (.load false 1 (tt 57))),
    gO 51 true (pO 59 (.addrSl 4 (tt 56) (tt 58))),
    gO 51 true (pO 60 (.fieldAddr 1 (tt 59))),
    gO 51 true (rO 61 (.load false 1 (tt 60))),
    gO 51 true (pO 62 (.int .eql .i64 (tt 61) (ii 0))),
    gO 41 false (pO 63 (.pick (tt 51) (tt 62) (bb false))),
    pO 64 (.pick (tt 41) (bb true) (tt 63)),
    cO 65 (fu n_code_checker_ask) [(tt 37), (tt 64), (ii 1)]]))))
  (.reg [
    pO 66 (.int .add .i64 (tt 33) (ii 1)),
    pO 33 (.mv (tt 66))]))))

/-- (*treadwheel/code.checker).roots -/
noncomputable def b_code_checker_roots : XCode :=
  (.seq (.seq (.reg [
    pO 6 (.mv (tt 0)),
    pO 7 (.nilCheck (tt 6)),
    pO 8 (.fieldAddr 0 (tt 7)),
    pO 9 (.fieldAddr 0 (tt 8)),
    rO 10 (.load false 1 (tt 9)),
    pO 11 (.lenSl (tt 10)),
    pO 12 (.mv (ii 0))])
  (.block 0 (.loop b_code_checker_roots_L0)))
  (.seq (.seq (.reg [
    pO 27 (.mv (tt 0)),
    pO 28 (.nilCheck (tt 27)),
    pO 29 (.fieldAddr 0 (tt 28)),
    pO 30 (.fieldAddr 3 (tt 29)),
    rO 31 (.load false 1 (tt 30)),
    pO 32 (.lenSl (tt 31)),
    pO 33 (.mv (ii 0))])
  (.block 2 (.loop b_code_checker_roots_L1)))
  (.seq (.dreg (dl [
    pO 67 (.mv (tt 0)),
    pO 68 (.mv (tt 0)),
    pO 69 (.nilCheck (tt 68)),
    pO 70 (.fieldAddr 0 (tt 69)),
    pO 71 (.fieldAddr 4 (tt 70)),
    rO 72 (.load false 1 (tt 71)),
    pO 73 (.mv (tt 0)),
    pO 74 (.nilCheck (tt 73)),
    pO 75 (.fieldAddr 0 (tt 74)),
    pO 76 (.fieldAddr 3 (tt 75)),
    rO 77 (.load false 1 (tt 76)),
    pO 78 (.lenSl (tt 77)),
    cO 79 (fu n_code_in) [(tt 72), (tt 78)],
    pO 80 (.mv (tt 79)),
    gO 80 true (pO 81 (.mv (tt 0))),
    gO 80 true (pO 82 (.nilCheck (tt 81))),
    gO 80 true (pO 83 (.fieldAddr 0 (tt 82))),
    gO 80 true (pO 84 (.fieldAddr 3 (tt 83))),
    gO 80 true (rO 85 (.load false 1 (tt 84))),
    gO 80 true (pO 86 (.mv (tt 0))),
    gO 80 true (pO 87 (.nilCheck (tt 86))),
    gO 80 true (pO 88 (.fieldAddr 0 (tt 87))),
    gO 80 true (pO 89 (.fieldAddr 4 (tt 88))),
    gO 80 true (rO 90 (.load false 1 (tt 89))),
    gO 80 true (pO 91 (.addrSl 3 (tt 85) (tt 90))),
    gO 80 true (pO 92 (.fieldAddr 0 (tt 91))),
    gO 80 true (rO 93 (.load false 1 (tt 92))),
    gO 80 true (pO 94 (.int .geq .i64 (tt 93) (ii 0))),
    pO 95 (.pick (tt 80) (tt 94) (bb false)),
    cO 96 (fu n_code_checker_ask) [(tt 67), (tt 95), (ii 1)]]))
  (.cond (tt 96)
    (.dreg (dl [
      pO 97 (.mv (tt 0)),
      pO 98 (.mv (tt 0)),
      pO 99 (.nilCheck (tt 98)),
      pO 100 (.fieldAddr 0 (tt 99)),
      pO 101 (.fieldAddr 1 (tt 100)),
      rO 102 (.load false 1 (tt 101)),
      pO 103 (.mv (tt 0)),
      pO 104 (.nilCheck (tt 103)),
      pO 105 (.fieldAddr 0 (tt 104)),
      pO 106 (.fieldAddr 3 (tt 105)),
      rO 107 (.load false 1 (tt 106)),
      pO 108 (.mv (tt 0)),
      pO 109 (.nilCheck (tt 108)),
      pO 110 (.fieldAddr 0 (tt 109)),
      pO 111 (.fieldAddr 4 (tt 110)),
      rO 112 (.load false 1 (tt 111)),
      pO 113 (.addrSl 3 (tt 107) (tt 112)),
      pO 114 (.fieldAddr 0 (tt 113)),
      rO 115 (.load false 1 (tt 114)),
      pO 116 (.addrSl 4 (tt 102) (tt 115)),
      pO 117 (.fieldAddr 2 (tt 116)),
      rO 118 (.load false 1 (tt 117)),
      pO 119 (.int .eql .i64 (tt 118) (ii 0)),
      cO 120 (fu n_code_checker_ask) [(tt 97), (tt 119), (ii 1)]]))
    .skip))))
theorem u_code_checker_roots (args : List AVal) (h : Heap) (hl : Nat.ble args.length 121 = true) : callF X n_code_checker_roots args h = outF (codeF X b_code_checker_roots (pa args 0 .leaf) h) [] false := x_callz (fn := ⟨121, [], b_code_checker_roots⟩) (by kernel_rfl) (by kernel_rfl) hl h

/-- (*treadwheel/code.checker).code -/
noncomputable def b_code_checker_code : XCode :=
  (.seq (.reg [
    pO 6 (.mv (tt 0)),
    pO 7 (.nilCheck (tt 6)),
    pO 8 (.fieldAddr 0 (tt 7)),
    pO 9 (.fieldAddr 1 (tt 8)),
    rO 10 (.load false 1 (tt 9)),
    pO 11 (.mv (tt 1)),
    pO 12 (.addrSl 4 (tt 10) (tt 11)),
    rO 13 (.load true 4 (tt 12)),
    fO 4 (.alloc [(.str []), (.int .i64 0), (.int .i64 0), (.int .i64 0)]),
    fN (.store 4 (tt 4) (tt 13))])
  (.seq (.reg [
    pO 5 (.mv (fu n_code_checker_code_1))])
  (.seq (.reg [
    pO 14 (.mv (tt 0)),
    pO 15 (.mv (tt 5)),
    pO 16 (.fieldAddr 1 (tt 4)),
    rO 17 (.load false 1 (tt 16)),
    cO 18 (tt 15) [(tt 17)],
    pO 19 (.mv (tt 18)),
    gO 19 true (pO 20 (.mv (tt 5))),
    gO 19 true (pO 21 (.fieldAddr 2 (tt 4))),
    gO 19 true (rO 22 (.load false 1 (tt 21))),
    gO 19 true (cO 23 (tt 20) [(tt 22)]),
    pO 24 (.pick (tt 19) (tt 23) (bb false)),
    cO 25 (fu n_code_checker_ask) [(tt 14), (tt 24), (ii 1)]])
  (.cond (tt 25)
    (.dreg (dl [
      pO 26 (.mv (tt 0)),
      pO 27 (.fieldAddr 3 (tt 4)),
      rO 28 (.load false 1 (tt 27)),
      pO 29 (.mv (tt 0)),
      pO 30 (.nilCheck (tt 29)),
      pO 31 (.fieldAddr 0 (tt 30)),
      pO 32 (.fieldAddr 2 (tt 31)),
      rO 33 (.load false 1 (tt 32)),
      pO 34 (.lenSl (tt 33)),
      pO 35 (.fieldAddr 1 (tt 4)),
      rO 36 (.load false 1 (tt 35)),
      pO 37 (.fieldAddr 2 (tt 4)),
      rO 38 (.load false 1 (tt 37)),
      pO 39 (.int .add .i64 (tt 36) (tt 38)),
      cO 40 (fu n_code_checker_node) [(tt 26), (tt 28), (tt 34), (tt 39)]]))
    .skip))))
theorem u_code_checker_code (args : List AVal) (h : Heap) (hl : Nat.ble args.length 41 = true) : callF X n_code_checker_code args h = outF (codeF X b_code_checker_code (pa args 0 .leaf) h) [] false := x_callz (fn := ⟨41, [], b_code_checker_code⟩) (by kernel_rfl) (by kernel_rfl) hl h

/-- treadwheel/machine.made -/
noncomputable def b_machine_made : XCode :=
  (.seq (.reg [
    fO 1 (.box 4 (tt 0)),
    pO 2 (.mv (ii 0))])
  (.seq (.seq (.reg [
    pO 3 (.fieldAddr 2 (tt 1)),
    rO 4 (.load false 1 (tt 3)),
    pO 5 (.int .eql .i64 (tt 4) (ii 0))])
  (.cond (tt 5)
    (.seq (.reg [
      pO 6 (.fieldAddr 1 (tt 1)),
      rO 7 (.load false 1 (tt 6)),
      pO 8 (.minmax true .i64 (tt 7) (ii 1)),
      pO 2 (.mv (tt 8))])
    .ret)
    .skip))
  (.seq (.reg [
    pO 9 (.fieldAddr 1 (tt 1)),
    rO 10 (.load false 1 (tt 9)),
    pO 2 (.mv (tt 10))])
  .ret)))
theorem u_machine_made (args : List AVal) (h : Heap) (hl : Nat.ble args.length 11 = true) : callF X n_machine_made args h = outF (codeF X b_machine_made (pa args 0 .leaf) h) [rt 2] false := x_callz (fn := ⟨11, [rt 2], b_machine_made⟩) (by kernel_rfl) (by kernel_rfl) hl h

/-- treadwheel/mark.New -/
noncomputable def b_mark_New : XCode :=
  (.seq (.reg [
    pO 2 (.mv (kc .nilp))])
  (.seq (.reg [
    pO 3 (.mv (tt 0)),
    pO 4 (.build [.nilp, (.int .i64 0), (.int .i64 0)] [(0, 1, (tt 3))]),
    fO 5 (.box 3 (tt 4)),
    pO 2 (.mv (tt 5))])
  .ret))
theorem u_mark_New (args : List AVal) (h : Heap) (hl : Nat.ble args.length 6 = true) : callF X n_mark_New args h = outF (codeF X b_mark_New (pa args 0 .leaf) h) [rt 2] false := x_callz (fn := ⟨6, [rt 2], b_mark_New⟩) (by kernel_rfl) (by kernel_rfl) hl h

/-- slices.Clone[[]int64,int64] -/
noncomputable def b_slices_Clone_int64_int64 : XCode :=
  (.seq (.reg [
    pO 2 (.mv (kc .nils))])
  (.seq (.seq (.reg [
    pO 3 (.mv (tt 0)),
    pO 4 (.nileq false .sl false (tt 3) (kc .nils))])
  (.cond (tt 4)
    (.seq (.reg [
      pO 2 (.mv (kc .nils))])
    .ret)
    .skip))
  (.seq (.reg [
    fO 5 (.buildSlice 1 0 [(.int .i64 0)] []),
    pO 6 (.mv (tt 0)),
    fO 7 (.append 1 8 (tt 5) (tt 6)),
    pO 2 (.mv (tt 7))])
  .ret)))
theorem u_slices_Clone_int64_int64 (args : List AVal) (h : Heap) (hl : Nat.ble args.length 8 = true) : callF X n_slices_Clone_int64_int64 args h = outF (codeF X b_slices_Clone_int64_int64 (pa args 0 .leaf) h) [rt 2] false := x_callz (fn := ⟨8, [rt 2], b_slices_Clone_int64_int64⟩) (by kernel_rfl) (by kernel_rfl) hl h

/-- slices.Clone[[]*treadwheel/stack.Stack,*treadwheel/stack.Stack] -/
noncomputable def b_slices_Clone_stack_Stack_stack_Stack : XCode :=
  (.seq (.reg [
    pO 2 (.mv (kc .nils))])
  (.seq (.seq (.reg [
    pO 3 (.mv (tt 0)),
    pO 4 (.nileq false .sl false (tt 3) (kc .nils))])
  (.cond (tt 4)
    (.seq (.reg [
      pO 2 (.mv (kc .nils))])
    .ret)
    .skip))
  (.seq (.reg [
    fO 5 (.buildSlice 1 0 [.nilp] []),
    pO 6 (.mv (tt 0)),
    fO 7 (.append 1 8 (tt 5) (tt 6)),
    pO 2 (.mv (tt 7))])
  .ret)))
theorem u_slices_Clone_stack_Stack_stack_Stack (args : List AVal) (h : Heap) (hl : Nat.ble args.length 8 = true) : callF X n_slices_Clone_stack_Stack_stack_Stack args h = outF (codeF X b_slices_Clone_stack_Stack_stack_Stack (pa args 0 .leaf) h) [rt 2] false := x_callz (fn := ⟨8, [rt 2], b_slices_Clone_stack_Stack_stack_Stack⟩) (by kernel_rfl) (by kernel_rfl) hl h

/-- treadwheel/weak.New -/
noncomputable def b_weak_New : XCode :=
  (.seq (.reg [
    pO 4 (.mv (kc .nilp))])
  (.seq (.reg [
    pO 5 (.mv (tt 0)),
    pO 6 (.mv (tt 1)),
    pO 7 (.build [.nilp, .nilFunc, (.int .i64 0), (.int .i64 0), (.int .i64 0), (.int .i64 0), (.int .i64 0), (.bool false)] [(0, 1, (tt 5)), (1, 1, (tt 6))]),
    fO 8 (.box 8 (tt 7)),
    pO 4 (.mv (tt 8))])
  .ret))
theorem u_weak_New (args : List AVal) (h : Heap) (hl : Nat.ble args.length 9 = true) : callF X n_weak_New args h = outF (codeF X b_weak_New (pa args 0 .leaf) h) [rt 4] false := x_callz (fn := ⟨9, [rt 4], b_weak_New⟩) (by kernel_rfl) (by kernel_rfl) hl h

/-- (*treadwheel/treadwheelref14.C).need -/
noncomputable def b_ref14_C_need : XCode :=
  (.seq (.reg [
    pO 6 (.mv (tt 0)),
    pO 7 (.nilCheck (tt 6)),
    pO 8 (.fieldAddr 7 (tt 7)),
    rO 9 (.load false 1 (tt 8)),
    pO 10 (.int .eql .i64 (tt 9) (ii 0)),
    pO 11 (.mv (tt 10)),
    gO 11 true (pO 12 (.mv (tt 1))),
    gO 11 true (pO 13 (.not (tt 12))),
    pO 14 (.pick (tt 11) (tt 13) (bb false))])
  (.cond (tt 14)
    (.reg [
      pO 15 (.mv (tt 0)),
      pO 16 (.mv (tt 2)),
      pO 17 (.nilCheck (tt 15)),
      pO 18 (.fieldAddr 7 (tt 17)),
      fN (.store 1 (tt 18) (tt 16))])
    .skip))
theorem u_ref14_C_need (args : List AVal) (h : Heap) (hl : Nat.ble args.length 19 = true) : callF X n_ref14_C_need args h = outF (codeF X b_ref14_C_need (pa args 0 .leaf) h) [] false := x_callz (fn := ⟨19, [], b_ref14_C_need⟩) (by kernel_rfl) (by kernel_rfl) hl h

/-- treadwheel/treadwheelref14.below -/
noncomputable def b_ref14_below : XCode :=
  (.seq (.reg [
    pO 4 (.mv (bb false))])
  (.seq (.reg [
    pO 5 (.mv (tt 0)),
    pO 6 (.int .geq .i64 (tt 5) (ii 0)),
    pO 7 (.mv (tt 6)),
    gO 7 true (pO 8 (.mv (tt 0))),
    gO 7 true (pO 9 (.mv (tt 1))),
    gO 7 true (pO 10 (.int .lss .i64 (tt 8) (tt 9))),
    pO 11 (.pick (tt 7) (tt 10) (bb false)),
    pO 4 (.mv (tt 11))])
  .ret))
theorem u_ref14_below (args : List AVal) (h : Heap) (hl : Nat.ble args.length 12 = true) : callF X n_ref14_below args h = outF (codeF X b_ref14_below (pa args 0 .leaf) h) [rt 4] false := x_callz (fn := ⟨12, [rt 4], b_ref14_below⟩) (by kernel_rfl) (by kernel_rfl) hl h

/-- (*treadwheel/treadwheelref14.C).kid -/
noncomputable def b_ref14_C_kid : XCode :=
  (.seq (.reg [
    pO 8 (.mv (tt 0)),
    pO 9 (.nilCheck (tt 8)),
    pO 10 (.fieldAddr 7 (tt 9)),
    rO 11 (.load false 1 (tt 10)),
    pO 12 (.int .eql .i64 (tt 11) (ii 0))])
  (.cond (tt 12)
    (.reg [
      pO 13 (.mv (tt 0)),
      pO 14 (.mv (tt 1)),
      pO 15 (.mv (tt 2)),
      pO 16 (.mv (tt 3)),
      cO 17 (fu n_ref14_C_Node) [(tt 13), (tt 14), (tt 15), (tt 16)]])
    .skip))
theorem u_ref14_C_kid (args : List AVal) (h : Heap) (hl : Nat.ble args.length 18 = true) : callF X n_ref14_C_kid args h = outF (codeF X b_ref14_C_kid (pa args 0 .leaf) h) [] false := x_callz (fn := ⟨18, [], b_ref14_C_kid⟩) (by kernel_rfl) (by kernel_rfl) hl h

noncomputable def b_law19_match_object_L0 : XCode :=
  (.seq (.seq (.reg [
    pO 95 (.mv (tt 12)),
    pO 96 (.mv (tt 11)),
    pO 97 (.int .lss .i64 (tt 95) (tt 96))])
  (.cond (tt 97)
    .skip
    (.exit 1)))
  (.seq (.block 2 (.seq (.reg [
    pO 101 (.mv (tt 0)),
    pO 102 (.nilCheck (tt 101)),
    pO 103 (.fieldAddr 0 (tt 102)),
    rO 104 (.load false 1 (tt 103)),
    pO 105 (.mv (tt 1)),
    pO 106 (.mv (tt 12)),
    cO 107 (fu n_heap_Heap_Get) [(tt 104), (tt 105), (tt 106)],
    pO 100 (.mv (tt 107)),
    pO 108 (.extract (tt 100) 0),
    pO 109 (.extract (tt 100) 1),
    pO 13 (.mv (tt 108)),
    pO 14 (.mv (tt 109))])
  (.seq (.seq (.reg [
    pO 110 (.mv (tt 14)),
    pO 111 (.int .neq .i64 (tt 110) (ii 0)),
    pO 112 (.mv (tt 111)),
    gO 112 false (pO 113 (.fieldAddr 0 (tt 5))),
    gO 112 false (rO 114 (.load false 1 (tt 113))),
    gO 112 false (pO 115 (.int .eql .i64 (tt 114) (ii 9))),
    gO 112 false (pO 116 (.mv (tt 115))),
    gO 116 true (pO 117 (.mv (tt 12))),
    gO 116 true (pO 118 (.int .eql .i64 (tt 117) (ii 0))),
    gO 112 false (pO 119 (.pick (tt 116) (tt 118) (bb false))),
    pO 120 (.pick (tt 112) (bb true) (tt 119))])
  (.cond (tt 120)
    (.seq (.seq (.reg [
      pO 121 (.mv (tt 14)),
      pO 122 (.int .neq .i64 (tt 121) (ii 0))])
    (.cond (tt 122)
      (.seq (.reg [
        pO 6 (.mv (bb false))])
      .ret)
      .skip))
    (.exit 2))
    .skip))
  (.seq (.reg [
    pO 123 (.mv (tt 0)),
    pO 124 (.mv (tt 13)),
    pO 125 (.fieldAddr 2 (tt 5)),
    rO 126 (.load false 1 (tt 125)),
    pO 127 (.mv (tt 12)),
    pO 128 (.addrSl 1 (tt 126) (tt 127)),
    rO 129 (.load false 1 (tt 128)),
    cO 130 (fu n_law19_match_one) [(tt 123), (tt 124), (tt 129)],
    pO 131 (.not (tt 130))])
  (.cond (tt 131)
    (.seq (.reg [
      pO 6 (.mv (bb false))])
    .ret)
    .skip)))))
  (.reg [
    pO 98 (.mv (tt 12)),
    pO 99 (.int .add .i64 (tt 98) (ii 1)),
    pO 12 (.mv (tt 99))])))

/-- (*treadwheel/treadwheellaw19.match).object -/
noncomputable def b_law19_match_object : XCode :=
  (.seq (.reg [
    fO 5 (.box 4 (tt 2)),
    pO 6 (.mv (bb false))])
  (.seq (.reg [
    pO 16 (.mv (tt 0)),
    pO 17 (.nilCheck (tt 16)),
    pO 18 (.fieldAddr 0 (tt 17)),
    rO 19 (.load false 1 (tt 18)),
    pO 20 (.mv (tt 1)),
    cO 21 (fu n_heap_Heap_Cell) [(tt 19), (tt 20)],
    pO 15 (.mv (tt 21)),
    pO 22 (.extract (tt 15) 0),
    pO 23 (.extract (tt 15) 1),
    fO 7 (.alloc [(.int .i64 0), (.int .i64 0), (.int .i64 0), (.int .i64 0)]),
    fN (.store 4 (tt 7) (tt 22)),
    pO 8 (.mv (tt 23))])
  (.seq (.seq (.reg [
    pO 24 (.mv (tt 8)),
    pO 25 (.int .neq .i64 (tt 24) (ii 0)),
    pO 26 (.mv (tt 25)),
    gO 26 false (pO 27 (.fieldAddr 0 (tt 7))),
    gO 26 false (rO 28 (.load false 1 (tt 27))),
    gO 26 false (pO 29 (.fieldAddr 0 (tt 5))),
    gO 26 false (rO 30 (.load false 1 (tt 29))),
    gO 26 false (pO 31 (.int .neq .i64 (tt 28) (tt 30))),
    pO 32 (.pick (tt 26) (bb true) (tt 31)),
    pO 33 (.mv (tt 32)),
    gO 33 false (pO 34 (.fieldAddr 2 (tt 7))),
    gO 33 false (rO 35 (.load false 1 (tt 34))),
    gO 33 false (pO 36 (.fieldAddr 1 (tt 5))),
    gO 33 false (rO 37 (.load false 1 (tt 36))),
    gO 33 false (pO 38 (.int .neq .i64 (tt 35) (tt 37))),
    pO 39 (.pick (tt 33) (bb true) (tt 38))])
  (.cond (tt 39)
    (.seq (.reg [
      pO 6 (.mv (bb false))])
    .ret)
    .skip))
  (.seq (.seq (.reg [
    pO 40 (.fieldAddr 0 (tt 5)),
    rO 41 (.load false 1 (tt 40)),
    pO 42 (.int .eql .i64 (tt 41) (ii 7)),
    pO 43 (.mv (tt 42)),
    gO 43 false (pO 44 (.fieldAddr 0 (tt 5))),
    gO 43 false (rO 45 (.load false 1 (tt 44))),
    gO 43 false (pO 46 (.int .eql .i64 (tt 45) (ii 8))),
    pO 47 (.pick (tt 43) (bb true) (tt 46))])
  (.cond (tt 47)
    (.seq (.reg [
      pO 49 (.mv (tt 0)),
      pO 50 (.nilCheck (tt 49)),
      pO 51 (.fieldAddr 0 (tt 50)),
      rO 52 (.load false 1 (tt 51)),
      pO 53 (.mv (tt 1)),
      cO 54 (fu n_heap_Heap_Get) [(tt 52), (tt 53), (ii 0)],
      pO 48 (.mv (tt 54)),
      pO 55 (.extract (tt 48) 0),
      pO 56 (.extract (tt 48) 1),
      pO 9 (.mv (tt 55)),
      pO 10 (.mv (tt 56))])
    (.seq (.reg [
      pO 57 (.mv (tt 10)),
      pO 58 (.int .eql .i64 (tt 57) (ii 0)),
      pO 59 (.mv (tt 58)),
      gO 59 true (pO 60 (.mv (tt 9))),
      gO 59 true (pO 61 (.toInt .u64 (tt 60))),
      gO 59 true (pO 62 (.fieldAddr 3 (tt 5))),
      gO 59 true (rO 63 (.load false 1 (tt 62))),
      gO 59 true (pO 64 (.int .eql .u64 (tt 61) (tt 63))),
      pO 65 (.pick (tt 59) (tt 64) (bb false)),
      pO 6 (.mv (tt 65))])
    .ret))
    .skip))
  (.seq (.reg [
    pO 66 (.fieldAddr 2 (tt 5)),
    rO 67 (.load false 1 (tt 66)),
    pO 68 (.lenSl (tt 67)),
    pO 11 (.mv (tt 68))])
  (.seq (.seq (.reg [
    pO 69 (.fieldAddr 0 (tt 5)),
    rO 70 (.load false 1 (tt 69))])
  (.block 0 (.seq (.reg [
    pO 72 (.int .eql .i64 (tt 70) (ii 6)),
    pO 71 (.mv (tt 72))])
  (.cond (tt 71)
    (.seq (.reg [
      pO 6 (.mv (bb true))])
    .ret)
    (.seq (.reg [
      pO 74 (.int .eql .i64 (tt 70) (ii 5)),
      pO 73 (.mv (tt 74))])
    (.cond (tt 73)
      (.reg [
        pO 11 (.mv (ii 1))])
      (.seq (.seq (.reg [
        pO 76 (.int .eql .i64 (tt 70) (ii 9)),
        pO 75 (.mv (tt 76))])
      (.cond (tt 75)
        .skip
        (.reg [
          pO 77 (.int .eql .i64 (tt 70) (ii 10)),
          pO 75 (.mv (tt 77))])))
      (.cond (tt 75)
        (.reg [
          pO 11 (.mv (ii 3))])
        .skip))))))))
  (.seq (.seq (.reg [
    pO 78 (.fieldAddr 1 (tt 7)),
    rO 79 (.load false 1 (tt 78)),
    pO 80 (.mv (tt 11)),
    pO 81 (.int .lss .i64 (tt 79) (tt 80)),
    pO 82 (.mv (tt 81)),
    gO 82 false (pO 83 (.mv (tt 11))),
    gO 82 false (pO 84 (.fieldAddr 2 (tt 5))),
    gO 82 false (rO 85 (.load false 1 (tt 84))),
    gO 82 false (pO 86 (.lenSl (tt 85))),
    gO 82 false (pO 87 (.int .eql .i64 (tt 83) (tt 86))),
    gO 82 false (pO 88 (.mv (tt 87))),
    gO 88 true (pO 89 (.fieldAddr 1 (tt 7))),
    gO 88 true (rO 90 (.load false 1 (tt 89))),
    gO 88 true (pO 91 (.mv (tt 11))),
    gO 88 true (pO 92 (.int .neq .i64 (tt 90) (tt 91))),
    gO 82 false (pO 93 (.pick (tt 88) (tt 92) (bb false))),
    pO 94 (.pick (tt 82) (bb true) (tt 93))])
  (.cond (tt 94)
    (.seq (.reg [
      pO 6 (.mv (bb false))])
    .ret)
    .skip))
  (.seq (.seq (.reg [
    pO 12 (.mv (ii 0))])
  (.block 1 (.loop b_law19_match_object_L0)))
  (.seq (.reg [
    pO 6 (.mv (bb true))])
  .ret)))))))))
theorem u_law19_match_object (args : List AVal) (h : Heap) (hl : Nat.ble args.length 132 = true) : callF X n_law19_match_object args h = outF (codeF X b_law19_match_object (pa args 0 .leaf) h) [rt 6] false := x_callz (fn := ⟨132, [rt 6], b_law19_match_object⟩) (by kernel_rfl) (by kernel_rfl) hl h

/-- (*treadwheel/treadwheelref19.W).make -/
noncomputable def b_ref19_W_make : XCode :=
  (.seq (.reg [
    fO 3 (.box 4 (tt 1)),
    pO 4 (.mv (ii 0))])
  (.seq (.dreg [
    ⟨pO 5 (.mv (tt 0)), []⟩,
    ⟨pO 6 (.mv (tt 0)), []⟩,
    ⟨pO 7 (.nilCheck (tt 6)), []⟩,
    ⟨pO 8 (.fieldAddr 5 (tt 7)), []⟩,
    ⟨rO 9 (.load false 1 (tt 8)), [7]⟩,
    ⟨rO 10 (.load true 4 (tt 3)), []⟩,
    ⟨fO 11 (.buildSlice 4 1 [(.int .i64 0), (.int .i64 0), .nils, (.int .u64 0)] [(0, 4, (tt 10))]), []⟩,
    ⟨fO 12 (.append 4 48 (tt 9) (tt 11)), []⟩,
    ⟨pO 13 (.nilCheck (tt 5)), []⟩,
    ⟨pO 14 (.fieldAddr 5 (tt 13)), []⟩,
    ⟨fN (.store 1 (tt 14) (tt 12)), []⟩])
  (.seq (.reg [
    pO 15 (.mv (tt 0)),
    pO 16 (.nilCheck (tt 15)),
    pO 17 (.fieldAddr 5 (tt 16)),
    rO 18 (.load false 1 (tt 17)),
    pO 19 (.lenSl (tt 18)),
    pO 20 (.int .sub .i64 (tt 19) (ii 1)),
    pO 4 (.mv (tt 20))])
  .ret)))
theorem u_ref19_W_make (args : List AVal) (h : Heap) (hl : Nat.ble args.length 21 = true) : callF X n_ref19_W_make args h = outF (codeF X b_ref19_W_make (pa args 0 .leaf) h) [rt 4] false := x_callz (fn := ⟨21, [rt 4], b_ref19_W_make⟩) (by kernel_rfl) (by kernel_rfl) hl h

/-- (*treadwheel/heap.Heap).Cell -/
noncomputable def b_heap_Heap_Cell : XCode :=
  (.seq (.reg [
    fO 4 (.alloc [(.int .i64 0), (.int .i64 0), (.int .i64 0), (.int .i64 0)]),
    pO 5 (.mv (ii 0))])
  (.seq (.reg [
    pO 9 (.mv (tt 0)),
    pO 10 (.nilCheck (tt 9)),
    pO 11 (.fieldAddr 0 (tt 10)),
    rO 12 (.load false 1 (tt 11)),
    pO 13 (.mv (tt 1)),
    cO 14 (fu n_arena_Arena_Load) [(tt 12), (tt 13)],
    pO 8 (.mv (tt 14)),
    pO 15 (.extract (tt 8) 0),
    pO 16 (.extract (tt 8) 1),
    pO 6 (.mv (tt 15)),
    pO 7 (.mv (tt 16))])
  (.seq (.seq (.reg [
    pO 17 (.mv (tt 7)),
    pO 18 (.int .neq .i64 (tt 17) (ii 0))])
  (.cond (tt 18)
    (.seq (.reg [
      pO 19 (.build [(.int .i64 0), (.int .i64 0), (.int .i64 0), (.int .i64 0)] []),
      pO 20 (.mv (tt 7)),
      fN (.store 4 (tt 4) (tt 19)),
      pO 5 (.mv (tt 20))])
    .ret)
    .skip))
  (.seq (.reg [
    pO 21 (.mv (tt 6)),
    cO 22 (fu n_cell_Unpack) [(tt 21)],
    pO 23 (.extract (tt 22) 0),
    pO 24 (.extract (tt 22) 1),
    fN (.store 4 (tt 4) (tt 23)),
    pO 5 (.mv (tt 24))])
  .ret))))
theorem u_heap_Heap_Cell (args : List AVal) (h : Heap) (hl : Nat.ble args.length 25 = true) : callF X n_heap_Heap_Cell args h = outF (codeF X b_heap_Heap_Cell (pa args 0 .leaf) h) [rc 4 true 4, rt 5] false := x_callz (fn := ⟨25, [rc 4 true 4, rt 5], b_heap_Heap_Cell⟩) (by kernel_rfl) (by kernel_rfl) hl h

/-- (*treadwheel/arena.Arena).use -/
noncomputable def b_arena_Arena_use : XCode :=
  (.seq (.reg [
    fO 6 (.alloc [(.int .i64 0)])])
  (.seq (.reg [
    pO 7 (.mkFunc n_arena_Arena_use_1 [] [(tt 6)]),
    qN (tt 7)])
  (.seq (.reg [
    pO 8 (.mv (tt 2)),
    pO 9 (.mv (tt 0)),
    pO 10 (.nilCheck (tt 9)),
    pO 11 (.fieldAddr 0 (tt 10)),
    rO 12 (.load false 1 (tt 11)),
    pO 13 (.mv (tt 1)),
    pO 14 (.addrSl 1 (tt 12) (tt 13)),
    cO 15 (tt 8) [(tt 14)]])
  (.seq (.reg [
    pO 16 (.mv (tt 0)),
    pO 17 (.nilCheck (tt 16)),
    pO 18 (.fieldAddr 1 (tt 17)),
    cO 19 (fu n_sync_atomic_Int64_Add) [(tt 18), (ii 1)]])
  (.seq (.reg [
    fN (.store 1 (tt 6) (ii 0))])
  .ret)))))
theorem u_arena_Arena_use (args : List AVal) (h : Heap) (hl : Nat.ble args.length 20 = true) : callF X n_arena_Arena_use args h = outF (codeF X b_arena_Arena_use (pa args 0 .leaf) h) [rc 6 false 1] false := x_callz (fn := ⟨20, [rc 6 false 1], b_arena_Arena_use⟩) (by kernel_rfl) (by kernel_rfl) hl h

/-- (*treadwheel/arena.Arena).Load$1 -/
noncomputable def b_arena_Arena_Load_1 : XCode :=
  (.reg [
    pO 3 (.mv (tt 0)),
    pO 4 (.nilCheck (tt 3)),
    rO 5 (.load false 1 (tt 4)),
    fN (.store 1 (tt 1) (tt 5))])
theorem u_arena_Arena_Load_1 (args : List AVal) (h : Heap) (hl : Nat.ble args.length 6 = true) : callF X n_arena_Arena_Load_1 args h = outF (codeF X b_arena_Arena_Load_1 (pa args 0 .leaf) h) [] false := x_callz (fn := ⟨6, [], b_arena_Arena_Load_1⟩) (by kernel_rfl) (by kernel_rfl) hl h

noncomputable def b_heap_Heap_Alloc_L0 : XCode :=
  (.seq (.reg [
    pO 47 (.int .lss .i64 (tt 46) (tt 45))])
  (.seq (.cond (tt 47)
    .skip
    (.exit 0))
  (.seq (.block 1 (.seq (.reg [
    pO 48 (.mv (tt 46)),
    pO 13 (.mv (tt 48))])
  (.reg [
    pO 49 (.mv (tt 0)),
    pO 50 (.nilCheck (tt 49)),
    pO 51 (.fieldAddr 0 (tt 50)),
    rO 52 (.load false 1 (tt 51)),
    pO 53 (.mv (tt 12)),
    pO 54 (.int .add .i64 (tt 53) (ii 3)),
    pO 55 (.mv (tt 13)),
    pO 56 (.int .add .i64 (tt 54) (tt 55)),
    cO 57 (fu n_arena_Arena_Store) [(tt 52), (tt 56), (ii 0)]])))
  (.reg [
    pO 58 (.int .add .i64 (tt 46) (ii 1)),
    pO 46 (.mv (tt 58))]))))

/-- (*treadwheel/heap.Heap).Alloc -/
noncomputable def b_heap_Heap_Alloc : XCode :=
  (.seq (.reg [
    pO 8 (.mv (ii 0)),
    pO 9 (.mv (ii 0))])
  (.seq (.reg [
    pO 15 (.mv (tt 1)),
    pO 16 (.mv (tt 3)),
    pO 17 (.mv (tt 2)),
    pO 18 (.mv (tt 0)),
    pO 19 (.nilCheck (tt 18)),
    pO 20 (.fieldAddr 7 (tt 19)),
    rO 21 (.load false 1 (tt 20)),
    pO 22 (.build [(.int .i64 0), (.int .i64 0), (.int .i64 0), (.int .i64 0)] [(0, 1, (tt 15)), (1, 1, (tt 16)), (2, 1, (tt 17)), (3, 1, (tt 21))]),
    cO 23 (fu n_cell_Pack) [(tt 22)],
    pO 14 (.mv (tt 23)),
    pO 24 (.extract (tt 14) 0),
    pO 25 (.extract (tt 14) 1),
    pO 10 (.mv (tt 24)),
    pO 11 (.mv (tt 25))])
  (.seq (.seq (.reg [
    pO 26 (.mv (tt 11)),
    pO 27 (.int .neq .i64 (tt 26) (ii 0))])
  (.cond (tt 27)
    (.seq (.reg [
      pO 28 (.mv (tt 11)),
      pO 8 (.mv (ii 0)),
      pO 9 (.mv (tt 28))])
    .ret)
    .skip))
  (.seq (.reg [
    pO 30 (.mv (tt 0)),
    pO 31 (.mv (tt 3)),
    cO 32 (fu n_heap_Heap_cell) [(tt 30), (tt 31)],
    pO 29 (.mv (tt 32)),
    pO 33 (.extract (tt 29) 0),
    pO 34 (.extract (tt 29) 1),
    pO 12 (.mv (tt 33)),
    pO 11 (.mv (tt 34))])
  (.seq (.seq (.reg [
    pO 35 (.mv (tt 11)),
    pO 36 (.int .neq .i64 (tt 35) (ii 0))])
  (.cond (tt 36)
    (.seq (.reg [
      pO 37 (.mv (tt 11)),
      pO 8 (.mv (ii 0)),
      pO 9 (.mv (tt 37))])
    .ret)
    .skip))
  (.seq (.reg [
    pO 38 (.mv (tt 0)),
    pO 39 (.nilCheck (tt 38)),
    pO 40 (.fieldAddr 0 (tt 39)),
    rO 41 (.load false 1 (tt 40)),
    pO 42 (.mv (tt 12)),
    pO 43 (.mv (tt 10)),
    cO 44 (fu n_arena_Arena_Store) [(tt 41), (tt 42), (tt 43)]])
  (.seq (.seq (.reg [
    pO 45 (.mv (tt 3)),
    pO 46 (.mv (ii 0))])
  (.block 0 (.loop b_heap_Heap_Alloc_L0)))
  (.seq (.reg [
    pO 59 (.mv (tt 12)),
    pO 8 (.mv (tt 59)),
    pO 9 (.mv (ii 0))])
  .ret))))))))
theorem u_heap_Heap_Alloc (args : List AVal) (h : Heap) (hl : Nat.ble args.length 60 = true) : callF X n_heap_Heap_Alloc args h = outF (codeF X b_heap_Heap_Alloc (pa args 0 .leaf) h) [rt 8, rt 9] false := x_callz (fn := ⟨60, [rt 8, rt 9], b_heap_Heap_Alloc⟩) (by kernel_rfl) (by kernel_rfl) hl h

/-- (*treadwheel/heap.Heap).Round -/
noncomputable def b_heap_Heap_Round : XCode :=
  (.seq (.reg [
    pO 4 (.mv (ii 0))])
  (.seq (.seq (.reg [
    pO 6 (.mv (tt 0)),
    pO 7 (.mv (tt 1)),
    cO 8 (fu n_heap_Heap_class) [(tt 6), (tt 7)],
    pO 5 (.mv (tt 8))])
  (.seq (.reg [
    pO 9 (.mv (tt 5)),
    pO 10 (.int .geq .i64 (tt 9) (ii 0))])
  (.cond (tt 10)
    (.reg [
      pO 11 (.mv (tt 0)),
      pO 12 (.nilCheck (tt 11)),
      pO 13 (.fieldAddr 1 (tt 12)),
      rO 14 (.load false 1 (tt 13)),
      pO 15 (.mv (tt 5)),
      pO 16 (.addrSl 1 (tt 14) (tt 15)),
      rO 17 (.load false 1 (tt 16)),
      pO 1 (.mv (tt 17))])
    .skip)))
  (.seq (.reg [
    pO 18 (.mv (tt 1)),
    pO 19 (.int .add .i64 (tt 18) (ii 3)),
    pO 4 (.mv (tt 19))])
  .ret)))
theorem u_heap_Heap_Round (args : List AVal) (h : Heap) (hl : Nat.ble args.length 20 = true) : callF X n_heap_Heap_Round args h = outF (codeF X b_heap_Heap_Round (pa args 0 .leaf) h) [rt 4] false := x_callz (fn := ⟨20, [rt 4], b_heap_Heap_Round⟩) (by kernel_rfl) (by kernel_rfl) hl h

/-- (*treadwheel/arena.Arena).Store -/
noncomputable def b_arena_Arena_Store : XCode :=
  (.seq (.reg [
    fO 5 (.box 1 (tt 2)),
    pO 6 (.mv (ii 0))])
  (.seq (.reg [
    pO 7 (.mv (tt 0)),
    pO 8 (.mv (tt 1)),
    pO 9 (.mkFunc n_arena_Arena_Store_1 [] [(tt 5)]),
    cO 10 (fu n_arena_Arena_use) [(tt 7), (tt 8), (tt 9)],
    pO 6 (.mv (tt 10))])
  .ret))
theorem u_arena_Arena_Store (args : List AVal) (h : Heap) (hl : Nat.ble args.length 11 = true) : callF X n_arena_Arena_Store args h = outF (codeF X b_arena_Arena_Store (pa args 0 .leaf) h) [rt 6] false := x_callz (fn := ⟨11, [rt 6], b_arena_Arena_Store⟩) (by kernel_rfl) (by kernel_rfl) hl h

/-- (*treadwheel/code.checker).ask -/
noncomputable def b_code_checker_ask : XCode :=
  (.seq (.reg [
    pO 6 (.mv (bb false))])
  (.seq (.seq (.reg [
    pO 7 (.mv (tt 1)),
    pO 8 (.not (tt 7)),
    pO 9 (.mv (tt 8)),
    gO 9 true (pO 10 (.mv (tt 0))),
    gO 9 true (pO 11 (.nilCheck (tt 10))),
    gO 9 true (pO 12 (.fieldAddr 6 (tt 11))),
    gO 9 true (rO 13 (.load false 1 (tt 12))),
    gO 9 true (pO 14 (.int .eql .i64 (tt 13) (ii 0))),
    pO 15 (.pick (tt 9) (tt 14) (bb false))])
  (.cond (tt 15)
    (.reg [
      pO 16 (.mv (tt 0)),
      pO 17 (.mv (tt 2)),
      pO 18 (.nilCheck (tt 16)),
      pO 19 (.fieldAddr 6 (tt 18)),
      fN (.store 1 (tt 19) (tt 17))])
    .skip))
  (.seq (.reg [
    pO 20 (.mv (tt 0)),
    pO 21 (.nilCheck (tt 20)),
    pO 22 (.fieldAddr 6 (tt 21)),
    rO 23 (.load false 1 (tt 22)),
    pO 24 (.int .eql .i64 (tt 23) (ii 0)),
    pO 6 (.mv (tt 24))])
  .ret)))
theorem u_code_checker_ask (args : List AVal) (h : Heap) (hl : Nat.ble args.length 25 = true) : callF X n_code_checker_ask args h = outF (codeF X b_code_checker_ask (pa args 0 .leaf) h) [rt 6] false := x_callz (fn := ⟨25, [rt 6], b_code_checker_ask⟩) (by kernel_rfl) (by kernel_rfl) hl h

/-- treadwheel/code.in -/
noncomputable def b_code_in : XCode :=
  (.seq (.reg [
    pO 4 (.mv (bb false))])
  (.seq (.reg [
    pO 5 (.mv (tt 0)),
    pO 6 (.int .geq .i64 (tt 5) (ii 0)),
    pO 7 (.mv (tt 6)),
    gO 7 true (pO 8 (.mv (tt 0))),
    gO 7 true (pO 9 (.mv (tt 1))),
    gO 7 true (pO 10 (.int .lss .i64 (tt 8) (tt 9))),
    pO 11 (.pick (tt 7) (tt 10) (bb false)),
    pO 4 (.mv (tt 11))])
  .ret))
theorem u_code_in (args : List AVal) (h : Heap) (hl : Nat.ble args.length 12 = true) : callF X n_code_in args h = outF (codeF X b_code_in (pa args 0 .leaf) h) [rt 4] false := x_callz (fn := ⟨12, [rt 4], b_code_in⟩) (by kernel_rfl) (by kernel_rfl) hl h

/-- (*treadwheel/code.checker).code$1 -/
noncomputable def b_code_checker_code_1 : XCode :=
  (.seq (.reg [
    pO 2 (.mv (bb false))])
  (.seq (.reg [
    pO 3 (.mv (tt 0)),
    pO 4 (.int .geq .i64 (tt 3) (ii 0)),
    pO 5 (.mv (tt 4)),
    gO 5 true (pO 6 (.mv (tt 0))),
    gO 5 true (pO 7 (.int .leq .i64 (tt 6) (ii 64))),
    pO 8 (.pick (tt 5) (tt 7) (bb false)),
    pO 2 (.mv (tt 8))])
  .ret))
theorem u_code_checker_code_1 (args : List AVal) (h : Heap) (hl : Nat.ble args.length 9 = true) : callF X n_code_checker_code_1 args h = outF (codeF X b_code_checker_code_1 (pa args 0 .leaf) h) [rt 2] false := x_callz (fn := ⟨9, [rt 2], b_code_checker_code_1⟩) (by kernel_rfl) (by kernel_rfl) hl h

noncomputable def b_code_checker_node_L0 : XCode :=
  (.seq (.reg [
    pO 97 (.int .lss .i64 (tt 96) (tt 95))])
  (.seq (.cond (tt 97)
    .skip
    (.exit 0))
  (.seq (.block 1 (.seq (.reg [
    pO 98 (.addrSl 2 (tt 94) (tt 96)),
    rO 99 (.load true 2 (tt 98)),
    fO 11 (.alloc [(.bool false), (.int .i64 0)]),
    fN (.store 2 (tt 11) (tt 99))])
  (.reg [
    pO 100 (.mv (tt 0)),
    rO 101 (.load true 2 (tt 11)),
    pO 102 (.mv (tt 3)),
    cO 103 (fu n_code_checker_atom) [(tt 100), (tt 101), (tt 102)]])))
  (.reg [
    pO 104 (.int .add .i64 (tt 96) (ii 1)),
    pO 96 (.mv (tt 104))]))))

noncomputable def b_code_checker_node_S11 : XCode :=
  (.seq (.seq (.reg [
    pO 132 (.mv (tt 0)),
    pO 133 (.nilCheck (tt 132)),
    pO 134 (.fieldAddr 6 (tt 133)),
    rO 135 (.load false 1 (tt 134)),
    pO 136 (.int .neq .i64 (tt 135) (ii 0))])
  (.cond (tt 136)
    .ret
    .skip))
  (.seq (.reg [
    pO 137 (.fieldAddr 0 (tt 9)),
    rO 138 (.load false 1 (tt 137))])
  (.block 2 (.seq (.reg [
    pO 140 (.int .eql .i64 (tt 138) (ii 2)),
    pO 139 (.mv (tt 140))])
  (.cond (tt 139)
    (.reg [
      pO 141 (.mv (tt 0)),
      pO 142 (.fieldAddr 1 (tt 9)),
      rO 143 (.load false 1 (tt 142)),
      pO 144 (.fieldAddr 4 (tt 9)),
      rO 145 (.load false 1 (tt 144)),
      pO 146 (.lenSl (tt 145)),
      cO 147 (fu n_code_checker_con) [(tt 141), (tt 143), (tt 146)]])
    (.seq (.reg [
      pO 149 (.int .eql .i64 (tt 138) (ii 6)),
      pO 148 (.mv (tt 149))])
    (.cond (tt 148)
      (.reg [
        pO 150 (.mv (tt 0)),
        pO 151 (.mv (tt 1)),
        rO 152 (.load true 8 (tt 9)),
        pO 153 (.mv (tt 3)),
        cO 154 (fu n_code_checker_let) [(tt 150), (tt 151), (tt 152), (tt 153)]])
      (.seq (.reg [
        pO 156 (.int .eql .i64 (tt 138) (ii 7)),
        pO 155 (.mv (tt 156))])
      (.cond (tt 155)
        (.reg [
          pO 157 (.mv (tt 0)),
          pO 158 (.mv (tt 1)),
          rO 159 (.load true 8 (tt 9)),
          pO 160 (.mv (tt 3)),
          cO 161 (fu n_code_checker_choice) [(tt 157), (tt 158), (tt 159), (tt 160)]])
        .skip)))))))))

noncomputable def b_code_checker_node_S9 : XCode :=
  (.seq (.seq (.reg [
    pO 118 (.fieldAddr 0 (tt 9)),
    rO 119 (.load false 1 (tt 118)),
    pO 120 (.fieldAddr 1 (tt 9)),
    rO 121 (.load false 1 (tt 120)),
    cO 122 (fu n_code_op_args) [(tt 119), (tt 121)],
    pO 12 (.mv (tt 122))])
  (.seq (.reg [
    pO 123 (.mv (tt 12)),
    pO 124 (.int .geq .i64 (tt 123) (ii 0))])
  (.cond (tt 124)
    (.reg [
      pO 125 (.mv (tt 0)),
      pO 126 (.fieldAddr 4 (tt 9)),
      rO 127 (.load false 1 (tt 126)),
      pO 128 (.lenSl (tt 127)),
      pO 129 (.mv (tt 12)),
      pO 130 (.int .eql .i64 (tt 128) (tt 129)),
      cO 131 (fu n_code_checker_ask) [(tt 125), (tt 130), (ii 11)]])
    .skip)))
  b_code_checker_node_S11)

noncomputable def b_code_checker_node_S7 : XCode :=
  (.seq (.seq (.reg [
    pO 93 (.fieldAddr 4 (tt 9)),
    rO 94 (.load false 1 (tt 93)),
    pO 95 (.lenSl (tt 94)),
    pO 96 (.mv (ii 0))])
  (.block 0 (.loop b_code_checker_node_L0)))
  (.seq (.seq (.reg [
    pO 105 (.fieldAddr 0 (tt 9)),
    rO 106 (.load false 1 (tt 105)),
    pO 107 (.int .eql .i64 (tt 106) (ii 3))])
  (.cond (tt 107)
    (.reg [
      pO 108 (.mv (tt 0)),
      pO 109 (.fieldAddr 1 (tt 9)),
      rO 110 (.load false 1 (tt 109)),
      pO 111 (.int .geq .i64 (tt 110) (ii 0)),
      pO 112 (.mv (tt 111)),
      gO 112 true (pO 113 (.fieldAddr 1 (tt 9))),
      gO 112 true (rO 114 (.load false 1 (tt 113))),
      gO 112 true (pO 115 (.int .leq .i64 (tt 114) (ii 14))),
      pO 116 (.pick (tt 112) (tt 115) (bb false)),
      cO 117 (fu n_code_checker_ask) [(tt 108), (tt 116), (ii 1)]])
    .skip))
  b_code_checker_node_S9))

/-- (*treadwheel/code.checker).node -/
noncomputable def b_code_checker_node : XCode :=
  (.seq (.reg [
    pO 13 (.mv (tt 1)),
    pO 14 (.mv (tt 3)),
    pO 15 (.build [(.int .i64 0), (.int .i64 0)] [(0, 1, (tt 13)), (1, 1, (tt 14))]),
    fO 8 (.alloc [(.int .i64 0), (.int .i64 0)]),
    fN (.store 2 (tt 8) (tt 15))])
  (.seq (.seq (.dreg (dl [
    pO 16 (.mv (tt 0)),
    pO 17 (.nilCheck (tt 16)),
    pO 18 (.fieldAddr 6 (tt 17)),
    rO 19 (.load false 1 (tt 18)),
    pO 20 (.int .neq .i64 (tt 19) (ii 0)),
    pO 21 (.mv (tt 20)),
    gO 21 false (pO 22 (.mv (tt 0))),
    gO 21 false (pO 23 (.mv (tt 1))),
    gO 21 false (pO 24 (.mv (tt 0))),
    gO 21 false (pO 25 (.nilCheck (tt 24))),
    gO 21 false (pO 26 (.fieldAddr 0 (tt 25))),
    gO 21 false (pO 27 (.fieldAddr 2 (tt 26))),
    gO 21 false (rO 28 (.load false 1 (tt 27))),
    gO 21 false (pO 29 (.lenSl (tt 28))),
    gO 21 false (cO 30 (fu n_code_in) [(tt 23), (tt 29)]),
    gO 21 false (pO 31 (.mv (tt 30))),
    gO 31 true (pO 32 (.mv (tt 1))),
    gO 31 true (pO 33 (.mv (tt 2))),
    gO 31 true (pO 34 (.int .lss .i64 (tt 32) (tt 33))),
    gO 21 false (pO 35 (.pick (tt 31) (tt 34) (bb false))),
    gO 21 false (cO 36 (fu n_code_checker_ask) [(tt 22), (tt 35), (ii 1)]),
    gO 21 false (pO 37 (.not (tt 36))),
    pO 38 (.pick (tt 21) (bb true) (tt 37)),
    pO 39 (.mv (tt 38)),
    gO 39 false (pO 40 (.mv (tt 0))),
    gO 39 false (pO 41 (.nilCheck (tt 40))),
    gO 39 false (pO 42 (.fieldAddr 5 (tt 41))),
    gO 39 false (rO 43 (.load false 1 (tt 42))),
    gO 39 false (rO 44 (.load true 2 (tt 8))),
    gO 39 false (rO 45 (.lookup true [.num .i64, .num .i64] (.bool false) false (tt 43) (tt 44))),
    pO 46 (.pick (tt 39) (bb true) (tt 45))]))
  (.cond (tt 46)
    .ret
    .skip))
  (.seq (.dreg (dl [
    pO 47 (.mv (tt 0)),
    pO 48 (.nilCheck (tt 47)),
    pO 49 (.fieldAddr 5 (tt 48)),
    rO 50 (.load false 1 (tt 49)),
    rO 51 (.load true 2 (tt 8)),
    fN (.mapUpdate true [.num .i64, .num .i64] (tt 50) (tt 51) (bb true))]))
  (.seq (.reg [
    pO 52 (.mv (tt 0)),
    pO 53 (.mv (tt 0)),
    pO 54 (.nilCheck (tt 53)),
    pO 55 (.fieldAddr 7 (tt 54)),
    rO 56 (.load false 1 (tt 55)),
    pO 57 (.mv (tt 3)),
    pO 58 (.minmax true .i64 (tt 56) (tt 57)),
    pO 59 (.nilCheck (tt 52)),
    pO 60 (.fieldAddr 7 (tt 59)),
    fN (.store 1 (tt 60) (tt 58))])
  (.seq (.reg [
    pO 61 (.mv (tt 0)),
    pO 62 (.nilCheck (tt 61)),
    pO 63 (.fieldAddr 0 (tt 62)),
    pO 64 (.fieldAddr 2 (tt 63)),
    rO 65 (.load false 1 (tt 64)),
    pO 66 (.mv (tt 1)),
    pO 67 (.addrSl 8 (tt 65) (tt 66)),
    rO 68 (.load true 8 (tt 67)),
    fO 9 (.alloc [(.int .i64 0), (.int .i64 0), (.bool false), (.int .i64 0), .nils, .nils, (.int .i64 0), .nils]),
    fN (.store 8 (tt 9) (tt 68))])
  (.seq (.seq (.reg [
    pO 69 (.mv (tt 0)),
    pO 70 (.fieldAddr 0 (tt 9)),
    rO 71 (.load false 1 (tt 70)),
    pO 72 (.int .geq .i64 (tt 71) (ii 1)),
    pO 73 (.mv (tt 72)),
    gO 73 true (pO 74 (.fieldAddr 0 (tt 9))),
    gO 73 true (rO 75 (.load false 1 (tt 74))),
    gO 73 true (pO 76 (.int .leq .i64 (tt 75) (ii 7))),
    pO 77 (.pick (tt 73) (tt 76) (bb false)),
    cO 78 (fu n_code_checker_ask) [(tt 69), (tt 77), (ii 6)],
    pO 79 (.not (tt 78)),
    pO 80 (.mv (tt 79)),
    gO 80 false (pO 81 (.fieldAddr 0 (tt 9))),
    gO 80 false (rO 82 (.load false 1 (tt 81))),
    gO 80 false (pO 83 (.int .eql .i64 (tt 82) (ii 1))),
    gO 80 false (pO 84 (.mv (tt 83))),
    gO 84 true (pO 85 (.mv (tt 0))),
    gO 84 true (pO 86 (.fieldAddr 2 (tt 9))),
    gO 84 true (rO 87 (.load true 2 (tt 86))),
    gO 84 true (pO 88 (.mv (tt 3))),
    gO 84 true (cO 89 (fu n_code_checker_atom) [(tt 85), (tt 87), (tt 88)]),
    gO 84 true (pO 90 (.not (tt 89))),
    gO 80 false (pO 91 (.pick (tt 84) (tt 90) (bb false))),
    pO 92 (.pick (tt 80) (bb true) (tt 91))])
  (.cond (tt 92)
    .ret
    .skip))
  b_code_checker_node_S7))))))
theorem u_code_checker_node (args : List AVal) (h : Heap) (hl : Nat.ble args.length 162 = true) : callF X n_code_checker_node args h = outF (codeF X b_code_checker_node (pa args 0 .leaf) h) [] false := x_callz (fn := ⟨162, [], b_code_checker_node⟩) (by kernel_rfl) (by kernel_rfl) hl h

noncomputable def b_ref14_C_Node_L0 : XCode :=
  (.seq (.seq (.reg [
    pO 83 (.mv (tt 9)),
    pO 84 (.fieldAddr 4 (tt 8)),
    rO 85 (.load false 1 (tt 84)),
    pO 86 (.lenSl (tt 85)),
    pO 87 (.int .lss .i64 (tt 83) (tt 86))])
  (.cond (tt 87)
    .skip
    (.exit 0)))
  (.seq (.block 1 (.reg [
    pO 90 (.mv (tt 0)),
    pO 91 (.fieldAddr 4 (tt 8)),
    rO 92 (.load false 1 (tt 91)),
    pO 93 (.mv (tt 9)),
    pO 94 (.addrSl 2 (tt 92) (tt 93)),
    rO 95 (.load true 2 (tt 94)),
    pO 96 (.mv (tt 3)),
    cO 97 (fu n_ref14_C_atom) [(tt 90), (tt 95), (tt 96)]]))
  (.reg [
    pO 88 (.mv (tt 9)),
    pO 89 (.int .add .i64 (tt 88) (ii 1)),
    pO 9 (.mv (tt 89))])))

noncomputable def b_ref14_C_Node_S8 : XCode :=
  (.seq (.seq (.reg [
    pO 9 (.mv (ii 0))])
  (.block 0 (.loop b_ref14_C_Node_L0)))
  (.seq (.reg [
    pO 98 (.mv (tt 0)),
    rO 99 (.load true 8 (tt 8)),
    cO 100 (fu n_ref14_C_count) [(tt 98), (tt 99)]])
  (.seq (.seq (.reg [
    pO 101 (.mv (tt 0)),
    pO 102 (.nilCheck (tt 101)),
    pO 103 (.fieldAddr 7 (tt 102)),
    rO 104 (.load false 1 (tt 103)),
    pO 105 (.int .neq .i64 (tt 104) (ii 0))])
  (.cond (tt 105)
    .ret
    .skip))
  (.seq (.reg [
    pO 106 (.fieldAddr 0 (tt 8)),
    rO 107 (.load false 1 (tt 106))])
  (.block 2 (.seq (.reg [
    pO 109 (.int .eql .i64 (tt 107) (ii 2)),
    pO 108 (.mv (tt 109))])
  (.cond (tt 108)
    (.reg [
      pO 110 (.mv (tt 0)),
      pO 111 (.fieldAddr 1 (tt 8)),
      rO 112 (.load false 1 (tt 111)),
      pO 113 (.fieldAddr 4 (tt 8)),
      rO 114 (.load false 1 (tt 113)),
      pO 115 (.lenSl (tt 114)),
      cO 116 (fu n_ref14_C_con) [(tt 110), (tt 112), (tt 115)]])
    (.seq (.reg [
      pO 118 (.int .eql .i64 (tt 107) (ii 6)),
      pO 117 (.mv (tt 118))])
    (.cond (tt 117)
      (.seq (.reg [
        pO 119 (.mv (tt 0)),
        rO 120 (.load true 8 (tt 8)),
        pO 121 (.mv (tt 3)),
        cO 122 (fu n_ref14_C_clos) [(tt 119), (tt 120), (tt 121)]])
      (.reg [
        pO 123 (.mv (tt 0)),
        pO 124 (.fieldAddr 6 (tt 8)),
        rO 125 (.load false 1 (tt 124)),
        pO 126 (.mv (tt 1)),
        pO 127 (.mv (tt 3)),
        pO 128 (.fieldAddr 5 (tt 8)),
        rO 129 (.load false 1 (tt 128)),
        pO 130 (.lenSl (tt 129)),
        pO 131 (.int .add .i64 (tt 127) (tt 130)),
        cO 132 (fu n_ref14_C_kid) [(tt 123), (tt 125), (tt 126), (tt 131)]]))
      (.seq (.reg [
        pO 134 (.int .eql .i64 (tt 107) (ii 7)),
        pO 133 (.mv (tt 134))])
      (.cond (tt 133)
        (.seq (.reg [
          pO 135 (.mv (tt 0)),
          pO 136 (.fieldAddr 6 (tt 8)),
          rO 137 (.load false 1 (tt 136)),
          pO 138 (.mv (tt 1)),
          pO 139 (.mv (tt 3)),
          cO 140 (fu n_ref14_C_kid) [(tt 135), (tt 137), (tt 138), (tt 139)]])
        (.reg [
          pO 141 (.mv (tt 0)),
          rO 142 (.load true 8 (tt 8)),
          pO 143 (.mv (tt 1)),
          pO 144 (.mv (tt 3)),
          cO 145 (fu n_ref14_C_branches) [(tt 141), (tt 142), (tt 143), (tt 144)]]))
        .skip)))))))))))

noncomputable def b_ref14_C_Node_S7 : XCode :=
  (.seq (.seq (.reg [
    pO 75 (.fieldAddr 0 (tt 8)),
    rO 76 (.load false 1 (tt 75)),
    pO 77 (.int .eql .i64 (tt 76) (ii 1))])
  (.cond (tt 77)
    (.reg [
      pO 78 (.mv (tt 0)),
      pO 79 (.fieldAddr 2 (tt 8)),
      rO 80 (.load true 2 (tt 79)),
      pO 81 (.mv (tt 3)),
      cO 82 (fu n_ref14_C_atom) [(tt 78), (tt 80), (tt 81)]])
    .skip))
  b_ref14_C_Node_S8)

noncomputable def b_ref14_C_Node_S5 : XCode :=
  (.seq (.reg [
    pO 57 (.mv (tt 0)),
    pO 58 (.nilCheck (tt 57)),
    pO 59 (.fieldAddr 0 (tt 58)),
    pO 60 (.fieldAddr 2 (tt 59)),
    rO 61 (.load false 1 (tt 60)),
    pO 62 (.mv (tt 1)),
    pO 63 (.addrSl 8 (tt 61) (tt 62)),
    rO 64 (.load true 8 (tt 63)),
    fO 8 (.alloc [(.int .i64 0), (.int .i64 0), (.bool false), (.int .i64 0), .nils, .nils, (.int .i64 0), .nils]),
    fN (.store 8 (tt 8) (tt 64))])
  (.seq (.reg [
    pO 65 (.mv (tt 0)),
    pO 66 (.fieldAddr 0 (tt 8)),
    rO 67 (.load false 1 (tt 66)),
    pO 68 (.int .geq .i64 (tt 67) (ii 1)),
    pO 69 (.mv (tt 68)),
    gO 69 true (pO 70 (.fieldAddr 0 (tt 8))),
    gO 69 true (rO 71 (.load false 1 (tt 70))),
    gO 69 true (pO 72 (.int .leq .i64 (tt 71) (ii 7))),
    pO 73 (.pick (tt 69) (tt 72) (bb false)),
    cO 74 (fu n_ref14_C_need) [(tt 65), (tt 73), (ii 6)]])
  b_ref14_C_Node_S7))

/-- (*treadwheel/treadwheelref14.C).Node -/
noncomputable def b_ref14_C_Node : XCode :=
  (.seq (.reg [
    pO 10 (.mv (tt 0)),
    pO 11 (.mv (tt 1)),
    pO 12 (.mv (tt 0)),
    pO 13 (.nilCheck (tt 12)),
    pO 14 (.fieldAddr 0 (tt 13)),
    pO 15 (.fieldAddr 2 (tt 14)),
    rO 16 (.load false 1 (tt 15)),
    pO 17 (.lenSl (tt 16)),
    cO 18 (fu n_ref14_below) [(tt 11), (tt 17)],
    pO 19 (.mv (tt 18)),
    gO 19 true (pO 20 (.mv (tt 1))),
    gO 19 true (pO 21 (.mv (tt 2))),
    gO 19 true (pO 22 (.int .lss .i64 (tt 20) (tt 21))),
    pO 23 (.pick (tt 19) (tt 22) (bb false)),
    cO 24 (fu n_ref14_C_need) [(tt 10), (tt 23), (ii 1)]])
  (.seq (.seq (.reg [
    pO 25 (.mv (tt 0)),
    pO 26 (.nilCheck (tt 25)),
    pO 27 (.fieldAddr 7 (tt 26)),
    rO 28 (.load false 1 (tt 27)),
    pO 29 (.int .neq .i64 (tt 28) (ii 0)),
    pO 30 (.mv (tt 29)),
    gO 30 false (pO 31 (.mv (tt 0))),
    gO 30 false (pO 32 (.nilCheck (tt 31))),
    gO 30 false (pO 33 (.fieldAddr 5 (tt 32))),
    gO 30 false (rO 34 (.load false 1 (tt 33))),
    gO 30 false (pO 35 (.mv (tt 1))),
    gO 30 false (pO 36 (.mv (tt 3))),
    gO 30 false (pO 37 (.build [(.int .i64 0), (.int .i64 0)] [(0, 1, (tt 35)), (1, 1, (tt 36))])),
    gO 30 false (rO 38 (.lookup true [.num .i64, .num .i64] (.bool false) false (tt 34) (tt 37))),
    pO 39 (.pick (tt 30) (bb true) (tt 38))])
  (.cond (tt 39)
    .ret
    .skip))
  (.seq (.reg [
    pO 40 (.mv (tt 0)),
    pO 41 (.nilCheck (tt 40)),
    pO 42 (.fieldAddr 5 (tt 41)),
    rO 43 (.load false 1 (tt 42)),
    pO 44 (.mv (tt 1)),
    pO 45 (.mv (tt 3)),
    pO 46 (.build [(.int .i64 0), (.int .i64 0)] [(0, 1, (tt 44)), (1, 1, (tt 45))]),
    fN (.mapUpdate true [.num .i64, .num .i64] (tt 43) (tt 46) (bb true))])
  (.seq (.seq (.reg [
    pO 47 (.mv (tt 3)),
    pO 48 (.mv (tt 0)),
    pO 49 (.nilCheck (tt 48)),
    pO 50 (.fieldAddr 6 (tt 49)),
    rO 51 (.load false 1 (tt 50)),
    pO 52 (.int .gtr .i64 (tt 47) (tt 51))])
  (.cond (tt 52)
    (.reg [
      pO 53 (.mv (tt 0)),
      pO 54 (.mv (tt 3)),
      pO 55 (.nilCheck (tt 53)),
      pO 56 (.fieldAddr 6 (tt 55)),
      fN (.store 1 (tt 56) (tt 54))])
    .skip))
  b_ref14_C_Node_S5))))
theorem u_ref14_C_Node (args : List AVal) (h : Heap) (hl : Nat.ble args.length 146 = true) : callF X n_ref14_C_Node args h = outF (codeF X b_ref14_C_Node (pa args 0 .leaf) h) [] false := x_callz (fn := ⟨146, [], b_ref14_C_Node⟩) (by kernel_rfl) (by kernel_rfl) hl h

noncomputable def b_cell_Unpack_L0 : XCode :=
  (.seq (.reg [
    pO 14 (.int .lss .i64 (tt 13) (ii 4))])
  (.seq (.cond (tt 14)
    .skip
    (.exit 0))
  (.seq (.block 1 (.seq (.reg [
    pO 15 (.mv (tt 13)),
    pO 16 (.indexArr false 4 1 (tt 12) (tt 13)),
    pO 6 (.mv (tt 15)),
    pO 7 (.mv (tt 16))])
  (.seq (.reg [
    pO 17 (.mv (tt 6)),
    pO 18 (.mv (tt 5)),
    pO 19 (.mv (tt 7)),
    pO 20 (.shift true .i64 (ii 1) (tt 19)),
    pO 21 (.int .sub .i64 (tt 20) (ii 1)),
    pO 22 (.int .and .i64 (tt 18) (tt 21)),
    pO 23 (.addrArr 4 1 (tt 4) (tt 17)),
    fN (.store 1 (tt 23) (tt 22))])
  (.reg [
    pO 24 (.mv (tt 5)),
    pO 25 (.mv (tt 7)),
    pO 26 (.shift false .i64 (tt 24) (tt 25)),
    pO 5 (.mv (tt 26))]))))
  (.reg [
    pO 27 (.int .add .i64 (tt 13) (ii 1)),
    pO 13 (.mv (tt 27))]))))

/-- treadwheel/cell.Unpack -/
noncomputable def b_cell_Unpack : XCode :=
  (.seq (.reg [
    fO 2 (.alloc [(.int .i64 0), (.int .i64 0), (.int .i64 0), (.int .i64 0)]),
    pO 3 (.mv (ii 0))])
  (.seq (.reg [
    fO 4 (.alloc [(.int .i64 0), (.int .i64 0), (.int .i64 0), (.int .i64 0)])])
  (.seq (.reg [
    pO 11 (.mv (tt 0)),
    pO 5 (.mv (tt 11))])
  (.seq (.seq (.reg [
    cO 12 (fu n_cell_bits) [],
    pO 13 (.mv (ii 0))])
  (.block 0 (.loop b_cell_Unpack_L0)))
  (.seq (.reg [
    pO 28 (.addrArr 4 1 (tt 4) (ii 0)),
    rO 29 (.load false 1 (tt 28)),
    pO 30 (.addrArr 4 1 (tt 4) (ii 2)),
    rO 31 (.load false 1 (tt 30)),
    pO 32 (.addrArr 4 1 (tt 4) (ii 3)),
    rO 33 (.load false 1 (tt 32)),
    pO 34 (.addrArr 4 1 (tt 4) (ii 1)),
    rO 35 (.load false 1 (tt 34)),
    pO 36 (.build [(.int .i64 0), (.int .i64 0), (.int .i64 0), (.int .i64 0)] [(0, 1, (tt 29)), (1, 1, (tt 31)), (2, 1, (tt 33)), (3, 1, (tt 35))]),
    fO 8 (.alloc [(.int .i64 0), (.int .i64 0), (.int .i64 0), (.int .i64 0)]),
    fN (.store 4 (tt 8) (tt 36))])
  (.seq (.seq (.reg [
    rO 38 (.load true 4 (tt 8)),
    cO 39 (fu n_cell_Pack) [(tt 38)],
    pO 37 (.mv (tt 39)),
    pO 40 (.extract (tt 37) 0),
    pO 41 (.extract (tt 37) 1),
    pO 9 (.mv (tt 40)),
    pO 10 (.mv (tt 41))])
  (.seq (.reg [
    pO 42 (.mv (tt 10)),
    pO 43 (.int .neq .i64 (tt 42) (ii 0)),
    pO 44 (.mv (tt 43)),
    gO 44 false (pO 45 (.mv (tt 9))),
    gO 44 false (pO 46 (.mv (tt 0))),
    gO 44 false (pO 47 (.int .neq .i64 (tt 45) (tt 46))),
    pO 48 (.pick (tt 44) (bb true) (tt 47))])
  (.cond (tt 48)
    (.seq (.reg [
      pO 49 (.build [(.int .i64 0), (.int .i64 0), (.int .i64 0), (.int .i64 0)] []),
      fN (.store 4 (tt 2) (tt 49)),
      pO 3 (.mv (ii 3))])
    .ret)
    .skip)))
  (.seq (.reg [
    rO 50 (.load true 4 (tt 8)),
    fN (.store 4 (tt 2) (tt 50)),
    pO 3 (.mv (ii 0))])
  .ret)))))))
theorem u_cell_Unpack (args : List AVal) (h : Heap) (hl : Nat.ble args.length 51 = true) : callF X n_cell_Unpack args h = outF (codeF X b_cell_Unpack (pa args 0 .leaf) h) [rc 2 true 4, rt 3] false := x_callz (fn := ⟨51, [rc 2 true 4, rt 3], b_cell_Unpack⟩) (by kernel_rfl) (by kernel_rfl) hl h

/-- (*sync/atomic.Int64).Add -/
noncomputable def b_sync_atomic_Int64_Add : XCode :=
  (.seq (.reg [
    pO 4 (.mv (ii 0))])
  (.seq (.reg [
    pO 5 (.mv (tt 0)),
    pO 6 (.nilCheck (tt 5)),
    pO 7 (.fieldAddr 0 (tt 6)),
    pO 8 (.mv (tt 1)),
    cO 9 (fu n_sync_atomic_AddInt64) [(tt 7), (tt 8)],
    pO 4 (.mv (tt 9))])
  .ret))
theorem u_sync_atomic_Int64_Add (args : List AVal) (h : Heap) (hl : Nat.ble args.length 10 = true) : callF X n_sync_atomic_Int64_Add args h = outF (codeF X b_sync_atomic_Int64_Add (pa args 0 .leaf) h) [rt 4] false := x_callz (fn := ⟨10, [rt 4], b_sync_atomic_Int64_Add⟩) (by kernel_rfl) (by kernel_rfl) hl h

noncomputable def b_cell_Pack_L0 : XCode :=
  (.seq (.reg [
    pO 28 (.int .lss .i64 (tt 27) (ii 4))])
  (.seq (.cond (tt 28)
    .skip
    (.exit 0))
  (.seq (.block 1 (.seq (.reg [
    pO 29 (.mv (tt 27)),
    pO 30 (.indexArr false 4 1 (tt 26) (tt 27)),
    pO 7 (.mv (tt 29)),
    pO 8 (.mv (tt 30))])
  (.seq (.seq (.reg [
    pO 31 (.mv (tt 7)),
    pO 32 (.addrArr 4 1 (tt 6) (tt 31)),
    rO 33 (.load false 1 (tt 32)),
    pO 34 (.mv (tt 8)),
    cO 35 (fu n_cell_fits) [(tt 33), (tt 34)],
    pO 36 (.not (tt 35))])
  (.cond (tt 36)
    (.seq (.reg [
      pO 2 (.mv (ii 0)),
      pO 3 (.mv (ii 1))])
    .ret)
    .skip))
  (.seq (.reg [
    pO 37 (.mv (tt 4)),
    pO 38 (.mv (tt 7)),
    pO 39 (.addrArr 4 1 (tt 6) (tt 38)),
    rO 40 (.load false 1 (tt 39)),
    pO 41 (.mv (tt 5)),
    pO 42 (.shift true .i64 (tt 40) (tt 41)),
    pO 43 (.int .or .i64 (tt 37) (tt 42)),
    pO 4 (.mv (tt 43))])
  (.reg [
    pO 44 (.mv (tt 5)),
    pO 45 (.mv (tt 8)),
    pO 46 (.int .add .i64 (tt 44) (tt 45)),
    pO 5 (.mv (tt 46))])))))
  (.reg [
    pO 47 (.int .add .i64 (tt 27) (ii 1)),
    pO 27 (.mv (tt 47))]))))

/-- treadwheel/cell.Pack -/
noncomputable def b_cell_Pack : XCode :=
  (.seq (.reg [
    fO 1 (.box 4 (tt 0)),
    pO 2 (.mv (ii 0)),
    pO 3 (.mv (ii 0))])
  (.seq (.seq (.reg [
    pO 9 (.fieldAddr 0 (tt 1)),
    rO 10 (.load false 1 (tt 9)),
    pO 11 (.int .lss .i64 (tt 10) (ii 0)),
    pO 12 (.mv (tt 11)),
    gO 12 false (pO 13 (.fieldAddr 0 (tt 1))),
    gO 12 false (rO 14 (.load false 1 (tt 13))),
    gO 12 false (pO 15 (.int .gtr .i64 (tt 14) (ii 10))),
    pO 16 (.pick (tt 12) (bb true) (tt 15))])
  (.cond (tt 16)
    (.seq (.reg [
      pO 2 (.mv (ii 0)),
      pO 3 (.mv (ii 6))])
    .ret)
    .skip))
  (.seq (.reg [
    pO 4 (.mv (ii 0)),
    pO 5 (.mv (ii 0))])
  (.seq (.reg [
    pO 17 (.fieldAddr 0 (tt 1)),
    rO 18 (.load false 1 (tt 17)),
    pO 19 (.fieldAddr 3 (tt 1)),
    rO 20 (.load false 1 (tt 19)),
    pO 21 (.fieldAddr 1 (tt 1)),
    rO 22 (.load false 1 (tt 21)),
    pO 23 (.fieldAddr 2 (tt 1)),
    rO 24 (.load false 1 (tt 23)),
    pO 25 (.build [(.int .i64 0), (.int .i64 0), (.int .i64 0), (.int .i64 0)] [(0, 1, (tt 18)), (1, 1, (tt 20)), (2, 1, (tt 22)), (3, 1, (tt 24))]),
    fO 6 (.alloc [(.int .i64 0), (.int .i64 0), (.int .i64 0), (.int .i64 0)]),
    fN (.store 4 (tt 6) (tt 25))])
  (.seq (.seq (.reg [
    cO 26 (fu n_cell_bits) [],
    pO 27 (.mv (ii 0))])
  (.block 0 (.loop b_cell_Pack_L0)))
  (.seq (.reg [
    pO 48 (.mv (tt 4)),
    pO 2 (.mv (tt 48)),
    pO 3 (.mv (ii 0))])
  .ret))))))
theorem u_cell_Pack (args : List AVal) (h : Heap) (hl : Nat.ble args.length 49 = true) : callF X n_cell_Pack args h = outF (codeF X b_cell_Pack (pa args 0 .leaf) h) [rt 2, rt 3] false := x_callz (fn := ⟨49, [rt 2, rt 3], b_cell_Pack⟩) (by kernel_rfl) (by kernel_rfl) hl h

/-- (*treadwheel/heap.Heap).cell -/
noncomputable def b_heap_Heap_cell : XCode :=
  (.seq (.reg [
    pO 4 (.mv (ii 0)),
    pO 5 (.mv (ii 0))])
  (.seq (.reg [
    pO 11 (.mv (tt 0)),
    pO 12 (.mv (tt 1)),
    cO 13 (fu n_heap_Heap_class) [(tt 11), (tt 12)],
    pO 6 (.mv (tt 13))])
  (.seq (.seq (.reg [
    pO 14 (.mv (tt 6)),
    pO 15 (.int .lss .i64 (tt 14) (ii 0))])
  (.cond (tt 15)
    (.seq (.reg [
      pO 17 (.mv (tt 0)),
      pO 18 (.nilCheck (tt 17)),
      pO 19 (.fieldAddr 4 (tt 18)),
      rO 20 (.load false 1 (tt 19)),
      pO 21 (.mv (tt 1)),
      pO 22 (.int .add .i64 (tt 21) (ii 3)),
      cO 23 (fu n_extent_Room_Take) [(tt 20), (tt 22)],
      pO 16 (.mv (tt 23)),
      pO 24 (.extract (tt 16) 0),
      pO 25 (.extract (tt 16) 1),
      pO 7 (.mv (tt 24)),
      pO 8 (.mv (tt 25))])
    (.seq (.seq (.reg [
      pO 26 (.mv (tt 8)),
      pO 27 (.int .neq .i64 (tt 26) (ii 0))])
    (.cond (tt 27)
      (.seq (.reg [
        pO 28 (.mv (tt 8)),
        pO 4 (.mv (ii 0)),
        pO 5 (.mv (tt 28))])
      .ret)
      .skip))
    (.seq (.reg [
      pO 29 (.mv (tt 0)),
      pO 30 (.nilCheck (tt 29)),
      pO 31 (.fieldAddr 3 (tt 30)),
      rO 32 (.load false 1 (tt 31)),
      pO 33 (.mv (tt 7)),
      cO 34 (fu n_ring_Ring_Grow) [(tt 32), (tt 33)]])
    (.seq (.reg [
      pO 35 (.mv (tt 0)),
      pO 36 (.nilCheck (tt 35)),
      pO 37 (.fieldAddr 3 (tt 36)),
      rO 38 (.load false 1 (tt 37)),
      cO 39 (fu n_ring_Ring_Alloc) [(tt 38)],
      pO 40 (.extract (tt 39) 0),
      pO 41 (.extract (tt 39) 1),
      pO 4 (.mv (tt 40)),
      pO 5 (.mv (tt 41))])
    .ret))))
    .skip))
  (.seq (.seq (.reg [
    pO 43 (.mv (tt 0)),
    pO 44 (.nilCheck (tt 43)),
    pO 45 (.fieldAddr 2 (tt 44)),
    rO 46 (.load false 1 (tt 45)),
    pO 47 (.mv (tt 6)),
    pO 48 (.addrSl 1 (tt 46) (tt 47)),
    rO 49 (.load false 1 (tt 48)),
    cO 50 (fu n_ring_Ring_Alloc) [(tt 49)],
    pO 42 (.mv (tt 50)),
    pO 51 (.extract (tt 42) 0),
    pO 52 (.extract (tt 42) 1),
    pO 9 (.mv (tt 51)),
    pO 10 (.mv (tt 52))])
  (.seq (.reg [
    pO 53 (.mv (tt 10)),
    pO 54 (.int .eql .i64 (tt 53) (ii 0))])
  (.cond (tt 54)
    (.seq (.reg [
      pO 55 (.mv (tt 9)),
      pO 56 (.mv (tt 10)),
      pO 4 (.mv (tt 55)),
      pO 5 (.mv (tt 56))])
    .ret)
    .skip)))
  (.seq (.seq (.reg [
    pO 57 (.mv (tt 0)),
    pO 58 (.mv (tt 6)),
    cO 59 (fu n_heap_Heap_grow) [(tt 57), (tt 58)],
    pO 60 (.not (tt 59))])
  (.cond (tt 60)
    (.seq (.reg [
      pO 4 (.mv (ii 0)),
      pO 5 (.mv (ii 2))])
    .ret)
    .skip))
  (.seq (.reg [
    pO 61 (.mv (tt 0)),
    pO 62 (.nilCheck (tt 61)),
    pO 63 (.fieldAddr 2 (tt 62)),
    rO 64 (.load false 1 (tt 63)),
    pO 65 (.mv (tt 6)),
    pO 66 (.addrSl 1 (tt 64) (tt 65)),
    rO 67 (.load false 1 (tt 66)),
    cO 68 (fu n_ring_Ring_Alloc) [(tt 67)],
    pO 69 (.extract (tt 68) 0),
    pO 70 (.extract (tt 68) 1),
    pO 4 (.mv (tt 69)),
    pO 5 (.mv (tt 70))])
  .ret))))))
theorem u_heap_Heap_cell (args : List AVal) (h : Heap) (hl : Nat.ble args.length 71 = true) : callF X n_heap_Heap_cell args h = outF (codeF X b_heap_Heap_cell (pa args 0 .leaf) h) [rt 4, rt 5] false := x_callz (fn := ⟨71, [rt 4, rt 5], b_heap_Heap_cell⟩) (by kernel_rfl) (by kernel_rfl) hl h
end Go.Tw
end
