/- A world is loaded just if its program is right and there is room for its globals, else the checker's error or ErrFull is told (the law MachineLoads, whatever the input). Conditions: none. This file: part I. -/
import Derived.Test.YtgghlkikgebipaaGreatG
set_option linter.all false

section
open Go Go.Av
namespace Go.Tw
/-- (*treadwheel/heap.Heap).class -/
noncomputable def b_heap_Heap_class : XCode :=
  (.seq (.reg [
    fO 3 (.box 1 (tt 1)),
    pO 4 (.mv (ii 0))])
  (.seq (.reg [
    pO 5 (.mv (tt 0)),
    pO 6 (.nilCheck (tt 5)),
    pO 7 (.fieldAddr 1 (tt 6)),
    rO 8 (.load false 1 (tt 7)),
    pO 9 (.mkFunc n_heap_Heap_class_1 [] [(tt 3)]),
    cO 10 (fu n_slices_IndexFunc_int_int) [(tt 8), (tt 9)],
    pO 4 (.mv (tt 10))])
  .ret))
theorem u_heap_Heap_class (args : List AVal) (h : Heap) (hl : Nat.ble args.length 11 = true) : callF X n_heap_Heap_class args h = outF (codeF X b_heap_Heap_class (pa args 0 .leaf) h) [rt 4] false := x_callz (fn := ⟨11, [rt 4], b_heap_Heap_class⟩) (by kernel_rfl) (by kernel_rfl) hl h

/-- (*treadwheel/arena.Arena).Store$1 -/
noncomputable def b_arena_Arena_Store_1 : XCode :=
  (.reg [
    pO 3 (.mv (tt 0)),
    rO 4 (.load false 1 (tt 1)),
    pO 5 (.nilCheck (tt 3)),
    fN (.store 1 (tt 5) (tt 4))])
theorem u_arena_Arena_Store_1 (args : List AVal) (h : Heap) (hl : Nat.ble args.length 6 = true) : callF X n_arena_Arena_Store_1 args h = outF (codeF X b_arena_Arena_Store_1 (pa args 0 .leaf) h) [] false := x_callz (fn := ⟨6, [], b_arena_Arena_Store_1⟩) (by kernel_rfl) (by kernel_rfl) hl h

/-- (*treadwheel/code.checker).atom -/
noncomputable def b_code_checker_atom : XCode :=
  (.seq (.reg [
    fO 4 (.box 2 (tt 1)),
    pO 6 (.mv (bb false))])
  (.seq (.seq (.reg [
    pO 7 (.fieldAddr 0 (tt 4)),
    rO 8 (.load false 1 (tt 7))])
  (.cond (tt 8)
    (.seq (.dreg (dl [
      pO 9 (.mv (tt 0)),
      pO 10 (.fieldAddr 1 (tt 4)),
      rO 11 (.load false 1 (tt 10)),
      pO 12 (.mv (tt 0)),
      pO 13 (.nilCheck (tt 12)),
      pO 14 (.fieldAddr 0 (tt 13)),
      pO 15 (.fieldAddr 3 (tt 14)),
      rO 16 (.load false 1 (tt 15)),
      pO 17 (.lenSl (tt 16)),
      cO 18 (fu n_code_in) [(tt 11), (tt 17)],
      cO 19 (fu n_code_checker_ask) [(tt 9), (tt 18), (ii 1)],
      pO 6 (.mv (tt 19))]))
    .ret)
    .skip))
  (.seq (.reg [
    pO 20 (.mv (tt 0)),
    pO 21 (.fieldAddr 1 (tt 4)),
    rO 22 (.load false 1 (tt 21)),
    pO 23 (.mv (tt 2)),
    cO 24 (fu n_code_in) [(tt 22), (tt 23)],
    cO 25 (fu n_code_checker_ask) [(tt 20), (tt 24), (ii 1)],
    pO 6 (.mv (tt 25))])
  .ret)))
theorem u_code_checker_atom (args : List AVal) (h : Heap) (hl : Nat.ble args.length 26 = true) : callF X n_code_checker_atom args h = outF (codeF X b_code_checker_atom (pa args 0 .leaf) h) [rt 6] false := x_callz (fn := ⟨26, [rt 6], b_code_checker_atom⟩) (by kernel_rfl) (by kernel_rfl) hl h

/-- (treadwheel/code.op).args -/
noncomputable def b_code_op_args : XCode :=
  (.seq (.reg [
    pO 4 (.mv (ii 0))])
  (.seq (.seq (.reg [
    pO 5 (.mv (tt 0))])
  (.block 0 (.seq (.block 3 (.seq (.block 2 (.seq (.block 1 (.seq (.seq (.seq (.reg [
    pO 7 (.int .eql .i64 (tt 5) (ii 5)),
    pO 6 (.mv (tt 7))])
  (.cond (tt 6)
    (.exit 1)
    .skip))
  (.seq (.seq (.reg [
    pO 9 (.int .eql .i64 (tt 5) (ii 3)),
    pO 8 (.mv (tt 9))])
  (.cond (tt 8)
    (.exit 2)
    .skip))
  (.seq (.reg [
    pO 11 (.int .eql .i64 (tt 5) (ii 4)),
    pO 10 (.mv (tt 11))])
  (.cond (tt 10)
    (.exit 3)
    .skip))))
  (.exit 0)))
  (.reg [
    pO 1 (.mv (ii 14))])))
  (.seq (.seq (.seq (.reg [
    pO 12 (.mv (tt 1)),
    pO 13 (.int .eql .i64 (tt 12) (ii 13)),
    pO 14 (.mv (tt 13)),
    gO 14 false (pO 15 (.mv (tt 1))),
    gO 14 false (pO 16 (.int .eql .i64 (tt 15) (ii 14))),
    pO 17 (.pick (tt 14) (bb true) (tt 16))])
  (.cond (tt 17)
    (.seq (.reg [
      pO 4 (.mv (ii 1))])
    .ret)
    .skip))
  (.seq (.reg [
    pO 4 (.mv (ii 2))])
  .ret))
  (.exit 0))))
  (.seq (.seq (.reg [
    pO 4 (.mv (ii 3))])
  .ret)
  (.exit 0)))))
  (.seq (.reg [
    pO 4 (.mv (ii (-1)))])
  .ret)))
theorem u_code_op_args (args : List AVal) (h : Heap) (hl : Nat.ble args.length 18 = true) : callF X n_code_op_args args h = outF (codeF X b_code_op_args (pa args 0 .leaf) h) [rt 4] false := x_callz (fn := ⟨18, [rt 4], b_code_op_args⟩) (by kernel_rfl) (by kernel_rfl) hl h

/-- (*treadwheel/code.checker).con -/
noncomputable def b_code_checker_con : XCode :=
  (.seq (.reg [
    pO 6 (.mv (bb false))])
  (.seq (.reg [
    pO 7 (.mv (tt 0)),
    pO 8 (.mv (tt 1)),
    pO 9 (.mv (tt 0)),
    pO 10 (.nilCheck (tt 9)),
    pO 11 (.fieldAddr 0 (tt 10)),
    pO 12 (.fieldAddr 0 (tt 11)),
    rO 13 (.load false 1 (tt 12)),
    pO 14 (.lenSl (tt 13)),
    cO 15 (fu n_code_in) [(tt 8), (tt 14)],
    cO 16 (fu n_code_checker_ask) [(tt 7), (tt 15), (ii 1)],
    pO 17 (.mv (tt 16)),
    gO 17 true (pO 18 (.mv (tt 0))),
    gO 17 true (pO 19 (.mv (tt 0))),
    gO 17 true (pO 20 (.nilCheck (tt 19))),
    gO 17 true (pO 21 (.fieldAddr 0 (tt 20))),
    gO 17 true (pO 22 (.fieldAddr 0 (tt 21))),
    gO 17 true (rO 23 (.load false 1 (tt 22))),
    gO 17 true (pO 24 (.mv (tt 1))),
    gO 17 true (pO 25 (.addrSl 2 (tt 23) (tt 24))),
    gO 17 true (pO 26 (.fieldAddr 1 (tt 25))),
    gO 17 true (rO 27 (.load false 1 (tt 26))),
    gO 17 true (pO 28 (.mv (tt 2))),
    gO 17 true (pO 29 (.int .eql .i64 (tt 27) (tt 28))),
    gO 17 true (cO 30 (fu n_code_checker_ask) [(tt 18), (tt 29), (ii 11)]),
    pO 31 (.pick (tt 17) (tt 30) (bb false)),
    pO 6 (.mv (tt 31))])
  .ret))
theorem u_code_checker_con (args : List AVal) (h : Heap) (hl : Nat.ble args.length 32 = true) : callF X n_code_checker_con args h = outF (codeF X b_code_checker_con (pa args 0 .leaf) h) [rt 6] false := x_callz (fn := ⟨32, [rt 6], b_code_checker_con⟩) (by kernel_rfl) (by kernel_rfl) hl h

noncomputable def b_code_checker_let_L0 : XCode :=
  (.seq (.reg [
    pO 60 (.int .lss .i64 (tt 59) (tt 58))])
  (.seq (.cond (tt 60)
    .skip
    (.exit 2))
  (.seq (.block 3 (.seq (.reg [
    pO 61 (.addrSl 1 (tt 57) (tt 59)),
    rO 62 (.load false 1 (tt 61)),
    pO 12 (.mv (tt 62))])
  (.reg [
    pO 63 (.mv (tt 0)),
    pO 64 (.mv (tt 12)),
    pO 65 (.mv (tt 8)),
    cO 66 (fu n_code_in) [(tt 64), (tt 65)],
    cO 67 (fu n_code_checker_ask) [(tt 63), (tt 66), (ii 1)]])))
  (.reg [
    pO 68 (.int .add .i64 (tt 59) (ii 1)),
    pO 59 (.mv (tt 68))]))))

noncomputable def b_code_checker_let_L1 : XCode :=
  (.seq (.reg [
    pO 22 (.int .lss .i64 (tt 21) (tt 20))])
  (.seq (.cond (tt 22)
    .skip
    (.exit 0))
  (.seq (.block 1 (.seq (.reg [
    pO 23 (.addrSl 2 (tt 19) (tt 21)),
    rO 24 (.load true 2 (tt 23)),
    fO 10 (.alloc [(.int .i64 0), .nils]),
    fN (.store 2 (tt 10) (tt 24))])
  (.seq (.seq (.dreg (dl [
    pO 25 (.mv (tt 0)),
    pO 26 (.fieldAddr 0 (tt 10)),
    rO 27 (.load false 1 (tt 26)),
    pO 28 (.mv (tt 0)),
    pO 29 (.nilCheck (tt 28)),
    pO 30 (.fieldAddr 0 (tt 29)),
    pO 31 (.fieldAddr 1 (tt 30)),
    rO 32 (.load false 1 (tt 31)),
    pO 33 (.lenSl (tt 32)),
    cO 34 (fu n_code_in) [(tt 27), (tt 33)],
    cO 35 (fu n_code_checker_ask) [(tt 25), (tt 34), (ii 1)],
    pO 36 (.not (tt 35)),
    pO 37 (.mv (tt 36)),
    gO 37 false (pO 38 (.mv (tt 0))),
    gO 37 false (pO 39 (.fieldAddr 1 (tt 10))),
    gO 37 false (rO 40 (.load false 1 (tt 39))),
    gO 37 false (pO 41 (.lenSl (tt 40))),
    gO 37 false (pO 42 (.mv (tt 0))),
    gO 37 false (pO 43 (.nilCheck (tt 42))),
    gO 37 false (pO 44 (.fieldAddr 0 (tt 43))),
    gO 37 false (pO 45 (.fieldAddr 1 (tt 44))),
    gO 37 false (rO 46 (.load false 1 (tt 45))),
    gO 37 false (pO 47 (.fieldAddr 0 (tt 10))),
    gO 37 false (rO 48 (.load false 1 (tt 47))),
    gO 37 false (pO 49 (.addrSl 4 (tt 46) (tt 48))),
    gO 37 false (pO 50 (.fieldAddr 1 (tt 49))),
    gO 37 false (rO 51 (.load false 1 (tt 50))),
    gO 37 false (pO 52 (.int .eql .i64 (tt 41) (tt 51))),
    gO 37 false (cO 53 (fu n_code_checker_ask) [(tt 38), (tt 52), (ii 11)]),
    gO 37 false (pO 54 (.not (tt 53))),
    pO 55 (.pick (tt 37) (bb true) (tt 54))]))
  (.cond (tt 55)
    .ret
    .skip))
  (.seq (.reg [
    pO 56 (.fieldAddr 1 (tt 10)),
    rO 57 (.load false 1 (tt 56)),
    pO 58 (.lenSl (tt 57)),
    pO 59 (.mv (ii 0))])
  (.block 2 (.loop b_code_checker_let_L0))))))
  (.reg [
    pO 69 (.int .add .i64 (tt 21) (ii 1)),
    pO 21 (.mv (tt 69))]))))

/-- (*treadwheel/code.checker).let -/
noncomputable def b_code_checker_let : XCode :=
  (.seq (.reg [
    fO 6 (.box 8 (tt 2))])
  (.seq (.reg [
    pO 13 (.mv (tt 3)),
    pO 14 (.fieldAddr 5 (tt 6)),
    rO 15 (.load false 1 (tt 14)),
    pO 16 (.lenSl (tt 15)),
    pO 17 (.int .add .i64 (tt 13) (tt 16)),
    pO 8 (.mv (tt 17))])
  (.seq (.seq (.reg [
    pO 18 (.fieldAddr 5 (tt 6)),
    rO 19 (.load false 1 (tt 18)),
    pO 20 (.lenSl (tt 19)),
    pO 21 (.mv (ii 0))])
  (.block 0 (.loop b_code_checker_let_L1)))
  (.reg [
    pO 70 (.mv (tt 0)),
    pO 71 (.fieldAddr 6 (tt 6)),
    rO 72 (.load false 1 (tt 71)),
    pO 73 (.mv (tt 1)),
    pO 74 (.mv (tt 8)),
    cO 75 (fu n_code_checker_node) [(tt 70), (tt 72), (tt 73), (tt 74)]]))))
theorem u_code_checker_let (args : List AVal) (h : Heap) (hl : Nat.ble args.length 76 = true) : callF X n_code_checker_let args h = outF (codeF X b_code_checker_let (pa args 0 .leaf) h) [] false := x_callz (fn := ⟨76, [], b_code_checker_let⟩) (by kernel_rfl) (by kernel_rfl) hl h

noncomputable def b_code_checker_choice_L0 : XCode :=
  (.seq (.reg [
    pO 21 (.int .lss .i64 (tt 20) (tt 19))])
  (.seq (.cond (tt 21)
    .skip
    (.exit 0))
  (.seq (.block 1 (.seq (.reg [
    pO 22 (.addrSl 4 (tt 18) (tt 20)),
    rO 23 (.load true 4 (tt 22)),
    fO 9 (.alloc [(.int .i64 0), (.int .i64 0), (.int .i64 0), (.int .i64 0)]),
    fN (.store 4 (tt 9) (tt 23))])
  (.seq (.reg [
    pO 24 (.mv (tt 3)),
    pO 10 (.mv (tt 24))])
  (.seq (.seq (.reg [
    pO 25 (.fieldAddr 0 (tt 9)),
    rO 26 (.load false 1 (tt 25))])
  (.block 2 (.seq (.reg [
    pO 30 (.int .eql .i64 (tt 26) (ii 0)),
    pO 29 (.mv (tt 30))])
  (.cond (tt 29)
    (.seq (.seq (.reg [
      pO 31 (.mv (tt 0)),
      pO 32 (.fieldAddr 1 (tt 9)),
      rO 33 (.load false 1 (tt 32)),
      pO 34 (.fieldAddr 2 (tt 9)),
      rO 35 (.load false 1 (tt 34)),
      cO 36 (fu n_code_checker_con) [(tt 31), (tt 33), (tt 35)],
      pO 37 (.not (tt 36))])
    (.cond (tt 37)
      .ret
      .skip))
    (.reg [
      pO 38 (.mv (tt 10)),
      pO 39 (.fieldAddr 2 (tt 9)),
      rO 40 (.load false 1 (tt 39)),
      pO 41 (.int .add .i64 (tt 38) (tt 40)),
      pO 10 (.mv (tt 41))]))
    (.seq (.reg [
      pO 43 (.int .eql .i64 (tt 26) (ii 1)),
      pO 42 (.mv (tt 43))])
    (.cond (tt 42)
      (.dreg (dl [
        pO 44 (.mv (tt 0)),
        pO 45 (.fieldAddr 1 (tt 9)),
        rO 46 (.load false 1 (tt 45)),
        pO 47 (.mv (tt 0)),
        pO 48 (.nilCheck (tt 47)),
        pO 49 (.fieldAddr 0 (tt 48)),
        pO 50 (.fieldAddr 3 (tt 49)),
        rO 51 (.load false 1 (tt 50)),
        pO 52 (.lenSl (tt 51)),
        cO 53 (fu n_code_in) [(tt 46), (tt 52)],
        pO 54 (.mv (tt 53)),
        gO 54 true (pO 55 (.mv (tt 0))),
        gO 54 true (pO 56 (.nilCheck (tt 55))),
        gO 54 true (pO 57 (.fieldAddr 0 (tt 56))),
        gO 54 true (pO 58 (.fieldAddr 3 (tt 57))),
        gO 54 true (rO 59 (.load false 1 (tt 58))),
        gO 54 true (pO 60 (.fieldAddr 1 (tt 9))),
        gO 54 true (rO 61 (.load false 1 (tt 60))),
        gO 54 true (pO 62 (.addrSl 3 (tt 59) (tt 61))),
        gO 54 true (pO 63 (.fieldAddr 0 (tt 62))),
        gO 54 true (rO 64 (.load false 1 (tt 63))),
        gO 54 true (pO 65 (.int .lss .i64 (tt 64) (ii 0))),
        pO 66 (.pick (tt 54) (tt 65) (bb false)),
        cO 67 (fu n_code_checker_ask) [(tt 44), (tt 66), (ii 1)]]))
      (.seq (.reg [
        pO 69 (.int .eql .i64 (tt 26) (ii 2)),
        pO 68 (.mv (tt 69))])
      (.cond (tt 68)
        (.reg [
          pO 70 (.mv (tt 10)),
          pO 71 (.int .add .i64 (tt 70) (ii 1)),
          pO 10 (.mv (tt 71))])
        (.reg [
          pO 27 (.mv (tt 0)),
          cO 28 (fu n_code_checker_ask) [(tt 27), (bb false), (ii 6)]])))))))))
  (.reg [
    pO 72 (.mv (tt 0)),
    pO 73 (.fieldAddr 3 (tt 9)),
    rO 74 (.load false 1 (tt 73)),
    pO 75 (.mv (tt 1)),
    pO 76 (.mv (tt 10)),
    cO 77 (fu n_code_checker_node) [(tt 72), (tt 74), (tt 75), (tt 76)]])))))
  (.reg [
    pO 78 (.int .add .i64 (tt 20) (ii 1)),
    pO 20 (.mv (tt 78))]))))

/-- (*treadwheel/code.checker).choice -/
noncomputable def b_code_checker_choice : XCode :=
  (.seq (.reg [
    fO 6 (.box 8 (tt 2))])
  (.seq (.reg [
    pO 11 (.mv (tt 0)),
    pO 12 (.fieldAddr 6 (tt 6)),
    rO 13 (.load false 1 (tt 12)),
    pO 14 (.mv (tt 1)),
    pO 15 (.mv (tt 3)),
    cO 16 (fu n_code_checker_node) [(tt 11), (tt 13), (tt 14), (tt 15)]])
  (.seq (.reg [
    pO 17 (.fieldAddr 7 (tt 6)),
    rO 18 (.load false 1 (tt 17)),
    pO 19 (.lenSl (tt 18)),
    pO 20 (.mv (ii 0))])
  (.block 0 (.loop b_code_checker_choice_L0)))))
theorem u_code_checker_choice (args : List AVal) (h : Heap) (hl : Nat.ble args.length 79 = true) : callF X n_code_checker_choice args h = outF (codeF X b_code_checker_choice (pa args 0 .leaf) h) [] false := x_callz (fn := ⟨79, [], b_code_checker_choice⟩) (by kernel_rfl) (by kernel_rfl) hl h

/-- (*treadwheel/treadwheelref14.C).atom -/
noncomputable def b_ref14_C_atom : XCode :=
  (.seq (.reg [
    fO 4 (.box 2 (tt 1))])
  (.seq (.reg [
    pO 7 (.mv (tt 2)),
    pO 6 (.mv (tt 7))])
  (.seq (.seq (.reg [
    pO 8 (.fieldAddr 0 (tt 4)),
    rO 9 (.load false 1 (tt 8))])
  (.cond (tt 9)
    (.reg [
      pO 10 (.mv (tt 0)),
      pO 11 (.nilCheck (tt 10)),
      pO 12 (.fieldAddr 0 (tt 11)),
      pO 13 (.fieldAddr 3 (tt 12)),
      rO 14 (.load false 1 (tt 13)),
      pO 15 (.lenSl (tt 14)),
      pO 6 (.mv (tt 15))])
    .skip))
  (.reg [
    pO 16 (.mv (tt 0)),
    pO 17 (.fieldAddr 1 (tt 4)),
    rO 18 (.load false 1 (tt 17)),
    pO 19 (.mv (tt 6)),
    cO 20 (fu n_ref14_below) [(tt 18), (tt 19)],
    cO 21 (fu n_ref14_C_need) [(tt 16), (tt 20), (ii 1)]]))))
theorem u_ref14_C_atom (args : List AVal) (h : Heap) (hl : Nat.ble args.length 22 = true) : callF X n_ref14_C_atom args h = outF (codeF X b_ref14_C_atom (pa args 0 .leaf) h) [] false := x_callz (fn := ⟨22, [], b_ref14_C_atom⟩) (by kernel_rfl) (by kernel_rfl) hl h

/-- (*treadwheel/treadwheelref14.C).count -/
noncomputable def b_ref14_C_count : XCode :=
  (.seq (.reg [
    fO 3 (.box 8 (tt 1))])
  (.seq (.reg [
    pO 5 (.fieldAddr 4 (tt 3)),
    rO 6 (.load false 1 (tt 5)),
    pO 7 (.lenSl (tt 6)),
    pO 4 (.mv (tt 7))])
  (.seq (.seq (.reg [
    pO 8 (.fieldAddr 0 (tt 3)),
    rO 9 (.load false 1 (tt 8))])
  (.block 0 (.seq (.reg [
    pO 11 (.int .eql .i64 (tt 9) (ii 3)),
    pO 10 (.mv (tt 11))])
  (.cond (tt 10)
    (.seq (.reg [
      pO 12 (.mv (tt 0)),
      pO 13 (.fieldAddr 1 (tt 3)),
      rO 14 (.load false 1 (tt 13)),
      pO 15 (.int .geq .i64 (tt 14) (ii 0)),
      pO 16 (.mv (tt 15)),
      gO 16 true (pO 17 (.fieldAddr 1 (tt 3))),
      gO 16 true (rO 18 (.load false 1 (tt 17))),
      gO 16 true (pO 19 (.int .leq .i64 (tt 18) (ii 14))),
      pO 20 (.pick (tt 16) (tt 19) (bb false)),
      cO 21 (fu n_ref14_C_need) [(tt 12), (tt 20), (ii 1)]])
    (.seq (.reg [
      pO 4 (.mv (ii 2))])
    (.seq (.reg [
      pO 22 (.fieldAddr 1 (tt 3)),
      rO 23 (.load false 1 (tt 22)),
      pO 24 (.int .geq .i64 (tt 23) (ii 13))])
    (.cond (tt 24)
      (.reg [
        pO 4 (.mv (ii 1))])
      .skip))))
    (.seq (.reg [
      pO 26 (.int .eql .i64 (tt 9) (ii 4)),
      pO 25 (.mv (tt 26))])
    (.cond (tt 25)
      (.reg [
        pO 4 (.mv (ii 3))])
      (.seq (.reg [
        pO 28 (.int .eql .i64 (tt 9) (ii 5)),
        pO 27 (.mv (tt 28))])
      (.cond (tt 27)
        (.reg [
          pO 4 (.mv (ii 1))])
        .skip))))))))
  (.reg [
    pO 29 (.mv (tt 0)),
    pO 30 (.fieldAddr 4 (tt 3)),
    rO 31 (.load false 1 (tt 30)),
    pO 32 (.lenSl (tt 31)),
    pO 33 (.mv (tt 4)),
    pO 34 (.int .eql .i64 (tt 32) (tt 33)),
    cO 35 (fu n_ref14_C_need) [(tt 29), (tt 34), (ii 11)]]))))
theorem u_ref14_C_count (args : List AVal) (h : Heap) (hl : Nat.ble args.length 36 = true) : callF X n_ref14_C_count args h = outF (codeF X b_ref14_C_count (pa args 0 .leaf) h) [] false := x_callz (fn := ⟨36, [], b_ref14_C_count⟩) (by kernel_rfl) (by kernel_rfl) hl h

/-- (*treadwheel/treadwheelref14.C).con -/
noncomputable def b_ref14_C_con : XCode :=
  (.seq (.reg [
    pO 6 (.mv (tt 0)),
    pO 7 (.mv (tt 1)),
    pO 8 (.mv (tt 0)),
    pO 9 (.nilCheck (tt 8)),
    pO 10 (.fieldAddr 0 (tt 9)),
    pO 11 (.fieldAddr 0 (tt 10)),
    rO 12 (.load false 1 (tt 11)),
    pO 13 (.lenSl (tt 12)),
    cO 14 (fu n_ref14_below) [(tt 7), (tt 13)],
    cO 15 (fu n_ref14_C_need) [(tt 6), (tt 14), (ii 1)]])
  (.seq (.reg [
    pO 16 (.mv (tt 0)),
    pO 17 (.nilCheck (tt 16)),
    pO 18 (.fieldAddr 7 (tt 17)),
    rO 19 (.load false 1 (tt 18)),
    pO 20 (.int .eql .i64 (tt 19) (ii 0))])
  (.cond (tt 20)
    (.reg [
      pO 21 (.mv (tt 0)),
      pO 22 (.mv (tt 0)),
      pO 23 (.nilCheck (tt 22)),
      pO 24 (.fieldAddr 0 (tt 23)),
      pO 25 (.fieldAddr 0 (tt 24)),
      rO 26 (.load false 1 (tt 25)),
      pO 27 (.mv (tt 1)),
      pO 28 (.addrSl 2 (tt 26) (tt 27)),
      pO 29 (.fieldAddr 1 (tt 28)),
      rO 30 (.load false 1 (tt 29)),
      pO 31 (.mv (tt 2)),
      pO 32 (.int .eql .i64 (tt 30) (tt 31)),
      cO 33 (fu n_ref14_C_need) [(tt 21), (tt 32), (ii 11)]])
    .skip)))
theorem u_ref14_C_con (args : List AVal) (h : Heap) (hl : Nat.ble args.length 34 = true) : callF X n_ref14_C_con args h = outF (codeF X b_ref14_C_con (pa args 0 .leaf) h) [] false := x_callz (fn := ⟨34, [], b_ref14_C_con⟩) (by kernel_rfl) (by kernel_rfl) hl h

noncomputable def b_ref14_C_clos_L0 : XCode :=
  (.seq (.seq (.reg [
    pO 60 (.mv (tt 8)),
    pO 61 (.fieldAddr 1 (tt 7)),
    rO 62 (.load false 1 (tt 61)),
    pO 63 (.lenSl (tt 62)),
    pO 64 (.int .lss .i64 (tt 60) (tt 63))])
  (.cond (tt 64)
    .skip
    (.exit 2)))
  (.seq (.block 3 (.dreg (dl [
    pO 67 (.mv (tt 0)),
    pO 68 (.fieldAddr 1 (tt 7)),
    rO 69 (.load false 1 (tt 68)),
    pO 70 (.mv (tt 8)),
    pO 71 (.addrSl 1 (tt 69) (tt 70)),
    rO 72 (.load false 1 (tt 71)),
    pO 73 (.mv (tt 2)),
    pO 74 (.fieldAddr 5 (tt 4)),
    rO 75 (.load false 1 (tt 74)),
    pO 76 (.lenSl (tt 75)),
    pO 77 (.int .add .i64 (tt 73) (tt 76)),
    cO 78 (fu n_ref14_below) [(tt 72), (tt 77)],
    cO 79 (fu n_ref14_C_need) [(tt 67), (tt 78), (ii 1)]])))
  (.reg [
    pO 65 (.mv (tt 8)),
    pO 66 (.int .add .i64 (tt 65) (ii 1)),
    pO 8 (.mv (tt 66))])))

noncomputable def b_ref14_C_clos_L1 : XCode :=
  (.seq (.seq (.reg [
    pO 9 (.mv (tt 6)),
    pO 10 (.fieldAddr 5 (tt 4)),
    rO 11 (.load false 1 (tt 10)),
    pO 12 (.lenSl (tt 11)),
    pO 13 (.int .lss .i64 (tt 9) (tt 12)),
    pO 14 (.mv (tt 13)),
    gO 14 true (pO 15 (.mv (tt 0))),
    gO 14 true (pO 16 (.nilCheck (tt 15))),
    gO 14 true (pO 17 (.fieldAddr 7 (tt 16))),
    gO 14 true (rO 18 (.load false 1 (tt 17))),
    gO 14 true (pO 19 (.int .eql .i64 (tt 18) (ii 0))),
    pO 20 (.pick (tt 14) (tt 19) (bb false))])
  (.cond (tt 20)
    .skip
    (.exit 0)))
  (.seq (.block 1 (.seq (.reg [
    pO 23 (.fieldAddr 5 (tt 4)),
    rO 24 (.load false 1 (tt 23)),
    pO 25 (.mv (tt 6)),
    pO 26 (.addrSl 2 (tt 24) (tt 25)),
    rO 27 (.load true 2 (tt 26)),
    fO 7 (.alloc [(.int .i64 0), .nils]),
    fN (.store 2 (tt 7) (tt 27))])
  (.seq (.dreg (dl [
    pO 28 (.mv (tt 0)),
    pO 29 (.fieldAddr 0 (tt 7)),
    rO 30 (.load false 1 (tt 29)),
    pO 31 (.mv (tt 0)),
    pO 32 (.nilCheck (tt 31)),
    pO 33 (.fieldAddr 0 (tt 32)),
    pO 34 (.fieldAddr 1 (tt 33)),
    rO 35 (.load false 1 (tt 34)),
    pO 36 (.lenSl (tt 35)),
    cO 37 (fu n_ref14_below) [(tt 30), (tt 36)],
    cO 38 (fu n_ref14_C_need) [(tt 28), (tt 37), (ii 1)]]))
  (.seq (.seq (.reg [
    pO 39 (.mv (tt 0)),
    pO 40 (.nilCheck (tt 39)),
    pO 41 (.fieldAddr 7 (tt 40)),
    rO 42 (.load false 1 (tt 41)),
    pO 43 (.int .eql .i64 (tt 42) (ii 0))])
  (.cond (tt 43)
    (.dreg (dl [
      pO 44 (.mv (tt 0)),
      pO 45 (.fieldAddr 1 (tt 7)),
      rO 46 (.load false 1 (tt 45)),
      pO 47 (.lenSl (tt 46)),
      pO 48 (.mv (tt 0)),
      pO 49 (.nilCheck (tt 48)),
      pO 50 (.fieldAddr 0 (tt 49)),
      pO 51 (.fieldAddr 1 (tt 50)),
      rO 52 (.load false 1 (tt 51)),
      pO 53 (.fieldAddr 0 (tt 7)),
      rO 54 (.load false 1 (tt 53)),
      pO 55 (.addrSl 4 (tt 52) (tt 54)),
      pO 56 (.fieldAddr 1 (tt 55)),
      rO 57 (.load false 1 (tt 56)),
      pO 58 (.int .eql .i64 (tt 47) (tt 57)),
      cO 59 (fu n_ref14_C_need) [(tt 44), (tt 58), (ii 11)]]))
    .skip))
  (.seq (.reg [
    pO 8 (.mv (ii 0))])
  (.block 2 (.loop b_ref14_C_clos_L0)))))))
  (.reg [
    pO 21 (.mv (tt 6)),
    pO 22 (.int .add .i64 (tt 21) (ii 1)),
    pO 6 (.mv (tt 22))])))

/-- (*treadwheel/treadwheelref14.C).clos -/
noncomputable def b_ref14_C_clos : XCode :=
  (.seq (.reg [
    fO 4 (.box 8 (tt 1))])
  (.seq (.reg [
    pO 6 (.mv (ii 0))])
  (.block 0 (.loop b_ref14_C_clos_L1))))
theorem u_ref14_C_clos (args : List AVal) (h : Heap) (hl : Nat.ble args.length 80 = true) : callF X n_ref14_C_clos args h = outF (codeF X b_ref14_C_clos (pa args 0 .leaf) h) [] false := x_callz (fn := ⟨80, [], b_ref14_C_clos⟩) (by kernel_rfl) (by kernel_rfl) hl h

noncomputable def b_ref14_C_branches_L0 : XCode :=
  (.seq (.seq (.reg [
    pO 11 (.mv (tt 8)),
    pO 12 (.fieldAddr 7 (tt 5)),
    rO 13 (.load false 1 (tt 12)),
    pO 14 (.lenSl (tt 13)),
    pO 15 (.int .lss .i64 (tt 11) (tt 14)),
    pO 16 (.mv (tt 15)),
    gO 16 true (pO 17 (.mv (tt 0))),
    gO 16 true (pO 18 (.nilCheck (tt 17))),
    gO 16 true (pO 19 (.fieldAddr 7 (tt 18))),
    gO 16 true (rO 20 (.load false 1 (tt 19))),
    gO 16 true (pO 21 (.int .eql .i64 (tt 20) (ii 0))),
    pO 22 (.pick (tt 16) (tt 21) (bb false))])
  (.cond (tt 22)
    .skip
    (.exit 0)))
  (.seq (.block 1 (.seq (.reg [
    pO 25 (.fieldAddr 7 (tt 5)),
    rO 26 (.load false 1 (tt 25)),
    pO 27 (.mv (tt 8)),
    pO 28 (.addrSl 4 (tt 26) (tt 27)),
    rO 29 (.load true 4 (tt 28)),
    fO 9 (.alloc [(.int .i64 0), (.int .i64 0), (.int .i64 0), (.int .i64 0)]),
    fN (.store 4 (tt 9) (tt 29))])
  (.seq (.reg [
    pO 30 (.mv (tt 3)),
    pO 10 (.mv (tt 30))])
  (.seq (.seq (.reg [
    pO 31 (.fieldAddr 0 (tt 9)),
    rO 32 (.load false 1 (tt 31))])
  (.block 2 (.seq (.reg [
    pO 36 (.int .eql .i64 (tt 32) (ii 0)),
    pO 35 (.mv (tt 36))])
  (.cond (tt 35)
    (.seq (.reg [
      pO 37 (.mv (tt 0)),
      pO 38 (.fieldAddr 1 (tt 9)),
      rO 39 (.load false 1 (tt 38)),
      pO 40 (.fieldAddr 2 (tt 9)),
      rO 41 (.load false 1 (tt 40)),
      cO 42 (fu n_ref14_C_con) [(tt 37), (tt 39), (tt 41)]])
    (.reg [
      pO 43 (.mv (tt 3)),
      pO 44 (.fieldAddr 2 (tt 9)),
      rO 45 (.load false 1 (tt 44)),
      pO 46 (.int .add .i64 (tt 43) (tt 45)),
      pO 10 (.mv (tt 46))]))
    (.seq (.reg [
      pO 48 (.int .eql .i64 (tt 32) (ii 1)),
      pO 47 (.mv (tt 48))])
    (.cond (tt 47)
      (.seq (.dreg (dl [
        pO 49 (.mv (tt 0)),
        pO 50 (.fieldAddr 1 (tt 9)),
        rO 51 (.load false 1 (tt 50)),
        pO 52 (.mv (tt 0)),
        pO 53 (.nilCheck (tt 52)),
        pO 54 (.fieldAddr 0 (tt 53)),
        pO 55 (.fieldAddr 3 (tt 54)),
        rO 56 (.load false 1 (tt 55)),
        pO 57 (.lenSl (tt 56)),
        cO 58 (fu n_ref14_below) [(tt 51), (tt 57)],
        cO 59 (fu n_ref14_C_need) [(tt 49), (tt 58), (ii 1)]]))
      (.seq (.reg [
        pO 60 (.mv (tt 0)),
        pO 61 (.nilCheck (tt 60)),
        pO 62 (.fieldAddr 7 (tt 61)),
        rO 63 (.load false 1 (tt 62)),
        pO 64 (.int .eql .i64 (tt 63) (ii 0))])
      (.cond (tt 64)
        (.dreg (dl [
          pO 65 (.mv (tt 0)),
          pO 66 (.mv (tt 0)),
          pO 67 (.nilCheck (tt 66)),
          pO 68 (.fieldAddr 0 (tt 67)),
          pO 69 (.fieldAddr 3 (tt 68)),
          rO 70 (.load false 1 (tt 69)),
          pO 71 (.fieldAddr 1 (tt 9)),
          rO 72 (.load false 1 (tt 71)),
          pO 73 (.addrSl 3 (tt 70) (tt 72)),
          pO 74 (.fieldAddr 0 (tt 73)),
          rO 75 (.load false 1 (tt 74)),
          pO 76 (.int .lss .i64 (tt 75) (ii 0)),
          cO 77 (fu n_ref14_C_need) [(tt 65), (tt 76), (ii 1)]]))
        .skip)))
      (.seq (.reg [
        pO 79 (.int .eql .i64 (tt 32) (ii 2)),
        pO 78 (.mv (tt 79))])
      (.cond (tt 78)
        (.reg [
          pO 80 (.mv (tt 3)),
          pO 81 (.int .add .i64 (tt 80) (ii 1)),
          pO 10 (.mv (tt 81))])
        (.reg [
          pO 33 (.mv (tt 0)),
          cO 34 (fu n_ref14_C_need) [(tt 33), (bb false), (ii 6)]])))))))))
  (.reg [
    pO 82 (.mv (tt 0)),
    pO 83 (.fieldAddr 3 (tt 9)),
    rO 84 (.load false 1 (tt 83)),
    pO 85 (.mv (tt 2)),
    pO 86 (.mv (tt 10)),
    cO 87 (fu n_ref14_C_kid) [(tt 82), (tt 84), (tt 85), (tt 86)]])))))
  (.reg [
    pO 23 (.mv (tt 8)),
    pO 24 (.int .add .i64 (tt 23) (ii 1)),
    pO 8 (.mv (tt 24))])))

/-- (*treadwheel/treadwheelref14.C).branches -/
noncomputable def b_ref14_C_branches : XCode :=
  (.seq (.reg [
    fO 5 (.box 8 (tt 1))])
  (.seq (.reg [
    pO 8 (.mv (ii 0))])
  (.block 0 (.loop b_ref14_C_branches_L0))))
theorem u_ref14_C_branches (args : List AVal) (h : Heap) (hl : Nat.ble args.length 88 = true) : callF X n_ref14_C_branches args h = outF (codeF X b_ref14_C_branches (pa args 0 .leaf) h) [] false := x_callz (fn := ⟨88, [], b_ref14_C_branches⟩) (by kernel_rfl) (by kernel_rfl) hl h

/-- treadwheel/cell.bits -/
noncomputable def b_cell_bits : XCode :=
  (.seq (.reg [
    fO 0 (.alloc [(.int .i64 0), (.int .i64 0), (.int .i64 0), (.int .i64 0)])])
  (.seq (.reg [
    pO 1 (.build [(.int .i64 0), (.int .i64 0), (.int .i64 0), (.int .i64 0)] [(0, 1, (ii 4)), (1, 1, (ii 1)), (2, 1, (ii 5)), (3, 1, (ii 24))]),
    fN (.store 4 (tt 0) (tt 1))])
  .ret))
theorem u_cell_bits (args : List AVal) (h : Heap) (hl : Nat.ble args.length 2 = true) : callF X n_cell_bits args h = outF (codeF X b_cell_bits (pa args 0 .leaf) h) [rc 0 true 4] false := x_callz (fn := ⟨2, [rc 0 true 4], b_cell_bits⟩) (by kernel_rfl) (by kernel_rfl) hl h

theorem u_sync_atomic_AddInt64 (args : List AVal) (h : Heap) : callF X n_sync_atomic_AddInt64 args h = extA h .atomicAdd args := callF_ext (by kernel_rfl) args h

/-- treadwheel/cell.fits -/
noncomputable def b_cell_fits : XCode :=
  (.seq (.reg [
    pO 4 (.mv (bb false))])
  (.seq (.reg [
    pO 5 (.mv (tt 0)),
    pO 6 (.int .geq .i64 (tt 5) (ii 0)),
    pO 7 (.mv (tt 6)),
    gO 7 true (pO 8 (.mv (tt 0))),
    gO 7 true (pO 9 (.mv (tt 1))),
    gO 7 true (pO 10 (.shift true .i64 (ii 1) (tt 9))),
    gO 7 true (pO 11 (.int .lss .i64 (tt 8) (tt 10))),
    pO 12 (.pick (tt 7) (tt 11) (bb false)),
    pO 4 (.mv (tt 12))])
  .ret))
theorem u_cell_fits (args : List AVal) (h : Heap) (hl : Nat.ble args.length 13 = true) : callF X n_cell_fits args h = outF (codeF X b_cell_fits (pa args 0 .leaf) h) [rt 4] false := x_callz (fn := ⟨13, [rt 4], b_cell_fits⟩) (by kernel_rfl) (by kernel_rfl) hl h

/-- (*treadwheel/ring.Ring).Grow -/
noncomputable def b_ring_Ring_Grow : XCode :=
  (.seq (.reg [
    pO 4 (.mv (ii 0))])
  (.seq (.seq (.reg [
    pO 5 (.mv (tt 1)),
    pO 6 (.int .lss .i64 (tt 5) (ii 1)),
    pO 7 (.mv (tt 6)),
    gO 7 false (pO 8 (.mv (tt 1))),
    gO 7 false (pO 9 (.mv (tt 0))),
    gO 7 false (pO 10 (.nilCheck (tt 9))),
    gO 7 false (pO 11 (.fieldAddr 0 (tt 10))),
    gO 7 false (rO 12 (.load false 1 (tt 11))),
    gO 7 false (cO 13 (fu n_arena_Arena_Len) [(tt 12)]),
    gO 7 false (pO 14 (.int .sub .i64 (tt 13) (ii 3))),
    gO 7 false (pO 15 (.int .gtr .i64 (tt 8) (tt 14))),
    pO 16 (.pick (tt 7) (bb true) (tt 15))])
  (.cond (tt 16)
    (.seq (.reg [
      pO 4 (.mv (ii 1))])
    .ret)
    .skip))
  (.seq (.seq (.reg [
    pO 17 (.mv (tt 0)),
    cO 18 (fu n_ring_Ring_all) [(tt 17)],
    pO 19 (.int .eql .i64 (tt 18) (ii 0))])
  (.cond (tt 19)
    (.seq (.reg [
      pO 20 (.mv (tt 0)),
      pO 21 (.mv (tt 1)),
      pO 22 (.mv (tt 1)),
      cO 23 (fu n_ring_Ring_link) [(tt 20), (tt 21), (tt 22)]])
    (.reg [
      pO 24 (.mv (tt 0)),
      pO 25 (.mv (tt 0)),
      pO 26 (.mv (tt 1)),
      pO 27 (.mv (tt 1)),
      pO 28 (.nilCheck (tt 24)),
      pO 29 (.fieldAddr 1 (tt 28)),
      fN (.store 1 (tt 29) (tt 26)),
      pO 30 (.nilCheck (tt 25)),
      pO 31 (.fieldAddr 2 (tt 30)),
      fN (.store 1 (tt 31) (tt 27))]))
    (.seq (.reg [
      pO 32 (.mv (tt 0)),
      pO 33 (.mv (tt 1)),
      pO 34 (.mv (tt 0)),
      pO 35 (.nilCheck (tt 34)),
      pO 36 (.fieldAddr 1 (tt 35)),
      rO 37 (.load false 1 (tt 36)),
      cO 38 (fu n_ring_Ring_put) [(tt 32), (tt 33), (tt 37)]])
    (.seq (.reg [
      pO 39 (.mv (tt 0)),
      pO 40 (.mv (tt 1)),
      pO 41 (.nilCheck (tt 39)),
      pO 42 (.fieldAddr 1 (tt 41)),
      fN (.store 1 (tt 42) (tt 40))])
    (.seq (.reg [
      pO 43 (.mv (tt 0)),
      pO 44 (.nilCheck (tt 43)),
      pO 45 (.fieldAddr 3 (tt 44)),
      pO 46 (.addrArr 4 1 (tt 45) (ii 3)),
      rO 47 (.load false 1 (tt 46)),
      pO 48 (.int .eql .i64 (tt 47) (ii 0))])
    (.cond (tt 48)
      (.reg [
        pO 49 (.mv (tt 0)),
        pO 50 (.mv (tt 1)),
        pO 51 (.nilCheck (tt 49)),
        pO 52 (.fieldAddr 2 (tt 51)),
        fN (.store 1 (tt 52) (tt 50))])
      .skip))))))
  (.seq (.dreg (dl [
    pO 53 (.mv (tt 0)),
    pO 54 (.nilCheck (tt 53)),
    pO 55 (.fieldAddr 3 (tt 54)),
    pO 56 (.addrArr 4 1 (tt 55) (ii 0)),
    rO 57 (.load false 1 (tt 56)),
    pO 58 (.int .add .i64 (tt 57) (ii 1)),
    pO 59 (.nilCheck (tt 53)),
    pO 60 (.fieldAddr 3 (tt 59)),
    pO 61 (.addrArr 4 1 (tt 60) (ii 0)),
    fN (.store 1 (tt 61) (tt 58))]))
  (.seq (.reg [
    pO 4 (.mv (ii 0))])
  .ret)))))
theorem u_ring_Ring_Grow (args : List AVal) (h : Heap) (hl : Nat.ble args.length 62 = true) : callF X n_ring_Ring_Grow args h = outF (codeF X b_ring_Ring_Grow (pa args 0 .leaf) h) [rt 4] false := x_callz (fn := ⟨62, [rt 4], b_ring_Ring_Grow⟩) (by kernel_rfl) (by kernel_rfl) hl h

/-- (*treadwheel/ring.Ring).Alloc -/
noncomputable def b_ring_Ring_Alloc : XCode :=
  (.seq (.reg [
    pO 2 (.mv (ii 0)),
    pO 3 (.mv (ii 0))])
  (.seq (.seq (.reg [
    pO 5 (.mv (tt 0)),
    pO 6 (.nilCheck (tt 5)),
    pO 7 (.fieldAddr 3 (tt 6)),
    pO 8 (.addrArr 4 1 (tt 7) (ii 0)),
    rO 9 (.load false 1 (tt 8)),
    pO 10 (.int .eql .i64 (tt 9) (ii 0))])
  (.cond (tt 10)
    (.seq (.reg [
      pO 2 (.mv (ii 0)),
      pO 3 (.mv (ii 2))])
    .ret)
    .skip))
  (.seq (.reg [
    pO 11 (.mv (tt 0)),
    pO 12 (.nilCheck (tt 11)),
    pO 13 (.fieldAddr 1 (tt 12)),
    rO 14 (.load false 1 (tt 13)),
    pO 4 (.mv (tt 14))])
  (.seq (.reg [
    pO 15 (.mv (tt 0)),
    pO 16 (.mv (tt 0)),
    pO 17 (.mv (tt 4)),
    cO 18 (fu n_ring_Ring_next) [(tt 16), (tt 17)],
    pO 19 (.nilCheck (tt 15)),
    pO 20 (.fieldAddr 1 (tt 19)),
    fN (.store 1 (tt 20) (tt 18))])
  (.seq (.reg [
    pO 21 (.mv (tt 0)),
    cO 22 (fu n_ring_Ring_turn) [(tt 21), (ii 0), (ii 3)]])
  (.seq (.reg [
    pO 23 (.mv (tt 4)),
    pO 2 (.mv (tt 23)),
    pO 3 (.mv (ii 0))])
  .ret))))))
theorem u_ring_Ring_Alloc (args : List AVal) (h : Heap) (hl : Nat.ble args.length 24 = true) : callF X n_ring_Ring_Alloc args h = outF (codeF X b_ring_Ring_Alloc (pa args 0 .leaf) h) [rt 2, rt 3] false := x_callz (fn := ⟨24, [rt 2, rt 3], b_ring_Ring_Alloc⟩) (by kernel_rfl) (by kernel_rfl) hl h

/-- (*treadwheel/heap.Heap).grow -/
noncomputable def b_heap_Heap_grow : XCode :=
  (.seq (.reg [
    pO 4 (.mv (bb false))])
  (.seq (.reg [
    pO 6 (.mv (tt 0)),
    pO 7 (.nilCheck (tt 6)),
    pO 8 (.fieldAddr 1 (tt 7)),
    rO 9 (.load false 1 (tt 8)),
    pO 10 (.mv (tt 1)),
    pO 11 (.addrSl 1 (tt 9) (tt 10)),
    rO 12 (.load false 1 (tt 11)),
    pO 13 (.int .add .i64 (tt 12) (ii 3)),
    pO 5 (.mv (tt 13))])
  (.seq (.seq (.dreg (dl [
    pO 14 (.mv (tt 5)),
    pO 15 (.mv (tt 0)),
    pO 16 (.nilCheck (tt 15)),
    pO 17 (.fieldAddr 6 (tt 16)),
    rO 18 (.load false 1 (tt 17)),
    pO 19 (.mv (tt 0)),
    pO 20 (.nilCheck (tt 19)),
    pO 21 (.fieldAddr 5 (tt 20)),
    rO 22 (.load false 1 (tt 21)),
    pO 23 (.int .sub .i64 (tt 18) (tt 22)),
    pO 24 (.int .gtr .i64 (tt 14) (tt 23))]))
  (.cond (tt 24)
    (.seq (.reg [
      pO 4 (.mv (bb false))])
    .ret)
    .skip))
  (.seq (.dreg (dl [
    pO 25 (.mv (tt 0)),
    pO 26 (.nilCheck (tt 25)),
    pO 27 (.fieldAddr 2 (tt 26)),
    rO 28 (.load false 1 (tt 27)),
    pO 29 (.mv (tt 1)),
    pO 30 (.addrSl 1 (tt 28) (tt 29)),
    rO 31 (.load false 1 (tt 30)),
    pO 32 (.mv (tt 0)),
    pO 33 (.nilCheck (tt 32)),
    pO 34 (.fieldAddr 5 (tt 33)),
    rO 35 (.load false 1 (tt 34)),
    cO 36 (fu n_ring_Ring_Grow) [(tt 31), (tt 35)]]))
  (.seq (.reg [
    pO 37 (.mv (tt 0)),
    pO 38 (.nilCheck (tt 37)),
    pO 39 (.fieldAddr 5 (tt 38)),
    rO 40 (.load false 1 (tt 39)),
    pO 41 (.mv (tt 5)),
    pO 42 (.int .add .i64 (tt 40) (tt 41)),
    pO 43 (.nilCheck (tt 37)),
    pO 44 (.fieldAddr 5 (tt 43)),
    fN (.store 1 (tt 44) (tt 42))])
  (.seq (.reg [
    pO 4 (.mv (bb true))])
  .ret))))))
theorem u_heap_Heap_grow (args : List AVal) (h : Heap) (hl : Nat.ble args.length 45 = true) : callF X n_heap_Heap_grow args h = outF (codeF X b_heap_Heap_grow (pa args 0 .leaf) h) [rt 4] false := x_callz (fn := ⟨45, [rt 4], b_heap_Heap_grow⟩) (by kernel_rfl) (by kernel_rfl) hl h

noncomputable def b_slices_IndexFunc_int_int_L0 : XCode :=
  (.seq (.reg [
    pO 9 (.int .lss .i64 (tt 8) (tt 7))])
  (.seq (.cond (tt 9)
    .skip
    (.exit 0))
  (.seq (.block 1 (.seq (.reg [
    pO 10 (.mv (tt 8)),
    pO 5 (.mv (tt 10))])
  (.seq (.reg [
    pO 11 (.mv (tt 1)),
    pO 12 (.mv (tt 0)),
    pO 13 (.mv (tt 5)),
    pO 14 (.addrSl 1 (tt 12) (tt 13)),
    rO 15 (.load false 1 (tt 14)),
    cO 16 (tt 11) [(tt 15)]])
  (.cond (tt 16)
    (.seq (.reg [
      pO 17 (.mv (tt 5)),
      pO 4 (.mv (tt 17))])
    .ret)
    .skip))))
  (.reg [
    pO 18 (.int .add .i64 (tt 8) (ii 1)),
    pO 8 (.mv (tt 18))]))))

/-- slices.IndexFunc[[]int,int] -/
noncomputable def b_slices_IndexFunc_int_int : XCode :=
  (.seq (.reg [
    pO 4 (.mv (ii 0))])
  (.seq (.seq (.reg [
    pO 6 (.mv (tt 0)),
    pO 7 (.lenSl (tt 6)),
    pO 8 (.mv (ii 0))])
  (.block 0 (.loop b_slices_IndexFunc_int_int_L0)))
  (.seq (.reg [
    pO 4 (.mv (ii (-1)))])
  .ret)))
theorem u_slices_IndexFunc_int_int (args : List AVal) (h : Heap) (hl : Nat.ble args.length 19 = true) : callF X n_slices_IndexFunc_int_int args h = outF (codeF X b_slices_IndexFunc_int_int (pa args 0 .leaf) h) [rt 4] false := x_callz (fn := ⟨19, [rt 4], b_slices_IndexFunc_int_int⟩) (by kernel_rfl) (by kernel_rfl) hl h

/-- (*treadwheel/heap.Heap).class$1 -/
noncomputable def b_heap_Heap_class_1 : XCode :=
  (.seq (.reg [
    pO 3 (.mv (bb false))])
  (.seq (.reg [
    pO 4 (.mv (tt 0)),
    rO 5 (.load false 1 (tt 1)),
    pO 6 (.int .geq .i64 (tt 4) (tt 5)),
    pO 3 (.mv (tt 6))])
  .ret))
theorem u_heap_Heap_class_1 (args : List AVal) (h : Heap) (hl : Nat.ble args.length 7 = true) : callF X n_heap_Heap_class_1 args h = outF (codeF X b_heap_Heap_class_1 (pa args 0 .leaf) h) [rt 3] false := x_callz (fn := ⟨7, [rt 3], b_heap_Heap_class_1⟩) (by kernel_rfl) (by kernel_rfl) hl h

/-- (*treadwheel/arena.Arena).Len -/
noncomputable def b_arena_Arena_Len : XCode :=
  (.seq (.reg [
    pO 2 (.mv (ii 0))])
  (.seq (.reg [
    pO 3 (.mv (tt 0)),
    pO 4 (.nilCheck (tt 3)),
    pO 5 (.fieldAddr 0 (tt 4)),
    rO 6 (.load false 1 (tt 5)),
    pO 7 (.lenSl (tt 6)),
    pO 2 (.mv (tt 7))])
  .ret))
theorem u_arena_Arena_Len (args : List AVal) (h : Heap) (hl : Nat.ble args.length 8 = true) : callF X n_arena_Arena_Len args h = outF (codeF X b_arena_Arena_Len (pa args 0 .leaf) h) [rt 2] false := x_callz (fn := ⟨8, [rt 2], b_arena_Arena_Len⟩) (by kernel_rfl) (by kernel_rfl) hl h

/-- (*treadwheel/ring.Ring).all -/
noncomputable def b_ring_Ring_all : XCode :=
  (.seq (.reg [
    pO 2 (.mv (ii 0))])
  (.seq (.dreg [
    ⟨pO 3 (.mv (tt 0)), []⟩,
    ⟨pO 4 (.nilCheck (tt 3)), []⟩,
    ⟨pO 5 (.fieldAddr 3 (tt 4)), []⟩,
    ⟨pO 6 (.addrArr 4 1 (tt 5) (ii 0)), []⟩,
    ⟨rO 7 (.load false 1 (tt 6)), [9]⟩,
    ⟨pO 8 (.mv (tt 0)), []⟩,
    ⟨cO 9 (fu n_ring_Ring_rest) [(tt 8)], []⟩,
    ⟨pO 10 (.int .add .i64 (tt 7) (tt 9)), []⟩,
    ⟨pO 2 (.mv (tt 10)), []⟩])
  .ret))
theorem u_ring_Ring_all (args : List AVal) (h : Heap) (hl : Nat.ble args.length 11 = true) : callF X n_ring_Ring_all args h = outF (codeF X b_ring_Ring_all (pa args 0 .leaf) h) [rt 2] false := x_callz (fn := ⟨11, [rt 2], b_ring_Ring_all⟩) (by kernel_rfl) (by kernel_rfl) hl h

/-- (*treadwheel/ring.Ring).link -/
noncomputable def b_ring_Ring_link : XCode :=
  (.seq (.reg [
    pO 6 (.mv (tt 0)),
    pO 7 (.nilCheck (tt 6)),
    pO 8 (.fieldAddr 0 (tt 7)),
    rO 9 (.load false 1 (tt 8)),
    pO 10 (.mv (tt 1)),
    pO 11 (.int .add .i64 (tt 10) (ii 1)),
    pO 12 (.mv (tt 2)),
    cO 13 (fu n_arena_Arena_Store) [(tt 9), (tt 11), (tt 12)]])
  (.reg [
    pO 14 (.mv (tt 0)),
    pO 15 (.nilCheck (tt 14)),
    pO 16 (.fieldAddr 0 (tt 15)),
    rO 17 (.load false 1 (tt 16)),
    pO 18 (.mv (tt 2)),
    pO 19 (.int .add .i64 (tt 18) (ii 2)),
    pO 20 (.mv (tt 1)),
    cO 21 (fu n_arena_Arena_Store) [(tt 17), (tt 19), (tt 20)]]))
theorem u_ring_Ring_link (args : List AVal) (h : Heap) (hl : Nat.ble args.length 22 = true) : callF X n_ring_Ring_link args h = outF (codeF X b_ring_Ring_link (pa args 0 .leaf) h) [] false := x_callz (fn := ⟨22, [], b_ring_Ring_link⟩) (by kernel_rfl) (by kernel_rfl) hl h

/-- (*treadwheel/ring.Ring).put -/
noncomputable def b_ring_Ring_put : XCode :=
  (.seq (.reg [
    pO 7 (.mv (tt 0)),
    pO 8 (.mv (tt 2)),
    cO 9 (fu n_ring_Ring_prev) [(tt 7), (tt 8)],
    pO 6 (.mv (tt 9))])
  (.seq (.reg [
    pO 10 (.mv (tt 0)),
    pO 11 (.mv (tt 6)),
    pO 12 (.mv (tt 1)),
    cO 13 (fu n_ring_Ring_link) [(tt 10), (tt 11), (tt 12)]])
  (.reg [
    pO 14 (.mv (tt 0)),
    pO 15 (.mv (tt 1)),
    pO 16 (.mv (tt 2)),
    cO 17 (fu n_ring_Ring_link) [(tt 14), (tt 15), (tt 16)]])))
theorem u_ring_Ring_put (args : List AVal) (h : Heap) (hl : Nat.ble args.length 18 = true) : callF X n_ring_Ring_put args h = outF (codeF X b_ring_Ring_put (pa args 0 .leaf) h) [] false := x_callz (fn := ⟨18, [], b_ring_Ring_put⟩) (by kernel_rfl) (by kernel_rfl) hl h

/-- (*treadwheel/ring.Ring).next -/
noncomputable def b_ring_Ring_next : XCode :=
  (.seq (.reg [
    pO 4 (.mv (ii 0))])
  (.seq (.reg [
    pO 5 (.mv (tt 0)),
    pO 6 (.mv (tt 1)),
    pO 7 (.int .add .i64 (tt 6) (ii 1)),
    cO 8 (fu n_ring_Ring_word) [(tt 5), (tt 7)],
    pO 4 (.mv (tt 8))])
  .ret))
theorem u_ring_Ring_next (args : List AVal) (h : Heap) (hl : Nat.ble args.length 9 = true) : callF X n_ring_Ring_next args h = outF (codeF X b_ring_Ring_next (pa args 0 .leaf) h) [rt 4] false := x_callz (fn := ⟨9, [rt 4], b_ring_Ring_next⟩) (by kernel_rfl) (by kernel_rfl) hl h

/-- (*treadwheel/ring.Ring).turn -/
noncomputable def b_ring_Ring_turn : XCode :=
  (.seq (.dreg (dl [
    pO 6 (.mv (tt 0)),
    pO 7 (.mv (tt 1)),
    pO 8 (.nilCheck (tt 6)),
    pO 9 (.fieldAddr 3 (tt 8)),
    pO 10 (.addrArr 4 1 (tt 9) (tt 7)),
    rO 11 (.load false 1 (tt 10)),
    pO 12 (.int .sub .i64 (tt 11) (ii 1)),
    pO 13 (.nilCheck (tt 6)),
    pO 14 (.fieldAddr 3 (tt 13)),
    pO 15 (.addrArr 4 1 (tt 14) (tt 7)),
    fN (.store 1 (tt 15) (tt 12))]))
  (.dreg (dl [
    pO 16 (.mv (tt 0)),
    pO 17 (.mv (tt 2)),
    pO 18 (.nilCheck (tt 16)),
    pO 19 (.fieldAddr 3 (tt 18)),
    pO 20 (.addrArr 4 1 (tt 19) (tt 17)),
    rO 21 (.load false 1 (tt 20)),
    pO 22 (.int .add .i64 (tt 21) (ii 1)),
    pO 23 (.nilCheck (tt 16)),
    pO 24 (.fieldAddr 3 (tt 23)),
    pO 25 (.addrArr 4 1 (tt 24) (tt 17)),
    fN (.store 1 (tt 25) (tt 22))])))
theorem u_ring_Ring_turn (args : List AVal) (h : Heap) (hl : Nat.ble args.length 26 = true) : callF X n_ring_Ring_turn args h = outF (codeF X b_ring_Ring_turn (pa args 0 .leaf) h) [] false := x_callz (fn := ⟨26, [], b_ring_Ring_turn⟩) (by kernel_rfl) (by kernel_rfl) hl h

/-- (*treadwheel/ring.Ring).rest -/
noncomputable def b_ring_Ring_rest : XCode :=
  (.seq (.reg [
    pO 2 (.mv (ii 0))])
  (.seq (.dreg (dl [
    pO 3 (.mv (tt 0)),
    pO 4 (.nilCheck (tt 3)),
    pO 5 (.fieldAddr 3 (tt 4)),
    pO 6 (.addrArr 4 1 (tt 5) (ii 1)),
    rO 7 (.load false 1 (tt 6)),
    pO 8 (.mv (tt 0)),
    pO 9 (.nilCheck (tt 8)),
    pO 10 (.fieldAddr 3 (tt 9)),
    pO 11 (.addrArr 4 1 (tt 10) (ii 2)),
    rO 12 (.load false 1 (tt 11)),
    pO 13 (.int .add .i64 (tt 7) (tt 12)),
    pO 14 (.mv (tt 0)),
    pO 15 (.nilCheck (tt 14)),
    pO 16 (.fieldAddr 3 (tt 15)),
    pO 17 (.addrArr 4 1 (tt 16) (ii 3)),
    rO 18 (.load false 1 (tt 17)),
    pO 19 (.int .add .i64 (tt 13) (tt 18)),
    pO 2 (.mv (tt 19))]))
  .ret))
theorem u_ring_Ring_rest (args : List AVal) (h : Heap) (hl : Nat.ble args.length 20 = true) : callF X n_ring_Ring_rest args h = outF (codeF X b_ring_Ring_rest (pa args 0 .leaf) h) [rt 2] false := x_callz (fn := ⟨20, [rt 2], b_ring_Ring_rest⟩) (by kernel_rfl) (by kernel_rfl) hl h

/-- (*treadwheel/ring.Ring).prev -/
noncomputable def b_ring_Ring_prev : XCode :=
  (.seq (.reg [
    pO 4 (.mv (ii 0))])
  (.seq (.reg [
    pO 5 (.mv (tt 0)),
    pO 6 (.mv (tt 1)),
    pO 7 (.int .add .i64 (tt 6) (ii 2)),
    cO 8 (fu n_ring_Ring_word) [(tt 5), (tt 7)],
    pO 4 (.mv (tt 8))])
  .ret))
theorem u_ring_Ring_prev (args : List AVal) (h : Heap) (hl : Nat.ble args.length 9 = true) : callF X n_ring_Ring_prev args h = outF (codeF X b_ring_Ring_prev (pa args 0 .leaf) h) [rt 4] false := x_callz (fn := ⟨9, [rt 4], b_ring_Ring_prev⟩) (by kernel_rfl) (by kernel_rfl) hl h

/-- (*treadwheel/ring.Ring).word -/
noncomputable def b_ring_Ring_word : XCode :=
  (.seq (.reg [
    pO 4 (.mv (ii 0))])
  (.seq (.reg [
    pO 8 (.mv (tt 0)),
    pO 9 (.nilCheck (tt 8)),
    pO 10 (.fieldAddr 0 (tt 9)),
    rO 11 (.load false 1 (tt 10)),
    pO 12 (.mv (tt 1)),
    cO 13 (fu n_arena_Arena_Load) [(tt 11), (tt 12)],
    pO 7 (.mv (tt 13)),
    pO 14 (.extract (tt 7) 0),
    pO 15 (.extract (tt 7) 1),
    pO 5 (.mv (tt 14)),
    pO 6 (.mv (tt 15))])
  (.seq (.reg [
    pO 16 (.mv (tt 5)),
    pO 4 (.mv (tt 16))])
  .ret)))
theorem u_ring_Ring_word (args : List AVal) (h : Heap) (hl : Nat.ble args.length 17 = true) : callF X n_ring_Ring_word args h = outF (codeF X b_ring_Ring_word (pa args 0 .leaf) h) [rt 4] false := x_callz (fn := ⟨17, [rt 4], b_ring_Ring_word⟩) (by kernel_rfl) (by kernel_rfl) hl h
end Go.Tw
end
