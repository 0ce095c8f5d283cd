/- The functions' code in the small language. Printed by program (wip/tools). -/
import Derived.Test.YtdfhmhgelkelcaaWalk2
import Derived.Test.YtdfhmhgelkelcaaProg
import Derived.KernelRfl
namespace Go.Proofs.Ytdfhmhgelkelcaa
open Go.RowKit
def hh : Nat → Nat → Option Md := fun fn slot => if (fn, slot) ∈ [(3, 27), (4, 32), (5, 48), (23, 8)] then some .gr else if (fn, slot) ∈ [(15, 7), (15, 9), (24, 5), (24, 10), (26, 5), (26, 7)] then some .hp else none

def c3l0 : AC :=
  .seq (.seq (.reg [⟨(some 56), .mv (.t 14), none⟩,
          ⟨(some 57), .bin .lss (.t 56) (.c (.d (.v (.int .u32 4)))), none⟩])
      (.cond (.t 57) (.skip) (.exit 0)))
     (.seq (.block 1 (.seq (.reg [⟨(some 61), .mv (.t 7), none⟩,
           ⟨(some 62), .mv (.t 10), none⟩,
           ⟨(some 63), .mv (.t 14), none⟩,
           ⟨(some 64), .bin .add (.t 62) (.t 63), none⟩,
           ⟨(some 65), .call 11 [(.t 61), (.t 64)], none⟩,
           ⟨(some 60), .mv (.t 65), none⟩,
           ⟨(some 66), .ext (.t 60) 0, none⟩,
           ⟨(some 67), .ext (.t 60) 1, none⟩,
           ⟨(some 15), .mv (.t 66), none⟩,
           ⟨(some 16), .mv (.t 67), none⟩])
       (.seq (.seq (.reg [⟨(some 68), .mv (.t 16), none⟩,
            ⟨(some 69), .un .not (.t 68), none⟩,
            ⟨(some 70), .mv (.t 69), none⟩,
            ⟨(some 71), .mv (.t 15), (some (70, false))⟩,
            ⟨(some 72), .bin .gtr (.t 71) (.c (.d (.v (.int .u32 255)))), (some (70, false))⟩,
            ⟨(some 73), .pick (.t 70) (.c (.d (.v (.bool true)))) (.t 72), none⟩,
            ⟨(some 74), .mv (.t 73), none⟩,
            ⟨(some 75), .mv (.t 14), (some (74, false))⟩,
            ⟨(some 76), .mv (.t 9), (some (74, false))⟩,
            ⟨(some 77), .bin .rem (.t 76) (.c (.d (.v (.int .u32 4)))), (some (74, false))⟩,
            ⟨(some 78), .bin .eql (.t 75) (.t 77), (some (74, false))⟩,
            ⟨(some 79), .mv (.t 78), (some (74, false))⟩,
            ⟨(some 80), .mv (.t 15), (some (79, true))⟩,
            ⟨(some 81), .mv (.t 2), (some (79, true))⟩,
            ⟨(some 82), .bin .and (.t 81) (.c (.d (.v (.int .u32 255)))), (some (79, true))⟩,
            ⟨(some 83), .bin .neq (.t 80) (.t 82), (some (79, true))⟩,
            ⟨(some 84), .pick (.t 79) (.t 83) (.c (.d (.v (.bool false)))), (some (74, false))⟩,
            ⟨(some 85), .pick (.t 74) (.c (.d (.v (.bool true)))) (.t 84), none⟩,
            ⟨(some 86), .mv (.t 85), none⟩,
            ⟨(some 87), .mv (.t 14), (some (86, false))⟩,
            ⟨(some 88), .mv (.t 9), (some (86, false))⟩,
            ⟨(some 89), .bin .rem (.t 88) (.c (.d (.v (.int .u32 4)))), (some (86, false))⟩,
            ⟨(some 90), .bin .neq (.t 87) (.t 89), (some (86, false))⟩,
            ⟨(some 91), .mv (.t 90), (some (86, false))⟩,
            ⟨(some 92), .mv (.t 15), (some (91, true))⟩,
            ⟨(some 93), .mv (.t 0), (some (91, true))⟩,
            ⟨(some 94), .mv (.t 10), (some (91, true))⟩,
            ⟨(some 95), .bin .quo (.t 94) (.c (.d (.v (.int .u32 4)))), (some (91, true))⟩,
            ⟨(some 96), .ia (.t 93) (.t 95) 1, (some (91, true))⟩,
            ⟨(some 97), .ld (.t 96) 1 false, (some (91, true))⟩,
            ⟨(some 98), .mv (.t 14), (some (91, true))⟩,
            ⟨(some 99), .bin .mul (.c (.d (.v (.int .u32 8)))) (.t 98), (some (91, true))⟩,
            ⟨(some 100), .bin .shr (.t 97) (.t 99), (some (91, true))⟩,
            ⟨(some 101), .bin .and (.t 100) (.c (.d (.v (.int .u32 255)))), (some (91, true))⟩,
            ⟨(some 102), .bin .neq (.t 92) (.t 101), (some (91, true))⟩,
            ⟨(some 103), .pick (.t 91) (.t 102) (.c (.d (.v (.bool false)))), (some (86, false))⟩,
            ⟨(some 104), .pick (.t 86) (.c (.d (.v (.bool true)))) (.t 103), none⟩])
        (.cond (.t 104) (.seq (.reg [⟨(some 6), .mv (.c (.d (.v (.bool false)))), none⟩])
         (.ret)) (.skip)))
       (.reg [⟨(some 105), .mv (.t 13), none⟩,
          ⟨(some 106), .mv (.t 15), none⟩,
          ⟨(some 107), .mv (.t 14), none⟩,
          ⟨(some 108), .bin .mul (.c (.d (.v (.int .u32 8)))) (.t 107), none⟩,
          ⟨(some 109), .bin .shl (.t 106) (.t 108), none⟩,
          ⟨(some 110), .bin .or (.t 105) (.t 109), none⟩,
          ⟨(some 13), .mv (.t 110), none⟩]))))
     (.reg [⟨(some 58), .mv (.t 14), none⟩,
        ⟨(some 59), .bin .add (.t 58) (.c (.d (.v (.int .u32 1)))), none⟩,
        ⟨(some 14), .mv (.t 59), none⟩]))

/-- spinet/spinetlaw04.MemoryBytes -/
def c3 : AC :=
  .seq (.reg [⟨(some 6), .mv (.c (.d (.v (.bool false)))), none⟩])
  (.seq (.seq (.reg [⟨(some 17), .mv (.t 0), none⟩,
       ⟨(some 18), .len false (.t 17), none⟩,
       ⟨(some 19), .bin .eql (.t 18) (.c (.d (.v (.int .i64 0)))), none⟩,
       ⟨(some 20), .mv (.t 19), none⟩,
       ⟨(some 21), .mv (.t 0), (some (20, false))⟩,
       ⟨(some 22), .len false (.t 21), (some (20, false))⟩,
       ⟨(some 23), .bin .gtr (.t 22) (.c (.d (.v (.int .i64 3000)))), (some (20, false))⟩,
       ⟨(some 24), .pick (.t 20) (.c (.d (.v (.bool true)))) (.t 23), none⟩])
   (.cond (.t 24) (.seq (.reg [⟨(some 25), .call 7 [], none⟩,
        ⟨(some 6), .mv (.t 25), none⟩])
    (.ret)) (.skip)))
  (.seq (.reg [⟨(some 27), .bs .gr 23 1 [], none⟩,
      ⟨(some 28), .mv (.t 0), none⟩,
      ⟨(some 29), .app .gr 23 1 4 (.t 27) (.t 28), none⟩,
      ⟨(some 30), .call 8 [(.t 29)], none⟩,
      ⟨(some 26), .mv (.t 30), none⟩,
      ⟨(some 31), .ext (.t 26) 0, none⟩,
      ⟨(some 32), .ext (.t 26) 1, none⟩,
      ⟨(some 7), .mv (.t 31), none⟩,
      ⟨(some 8), .mv (.t 32), none⟩])
  (.seq (.seq (.reg [⟨(some 33), .mv (.t 8), none⟩,
       ⟨(some 34), .bin .neq (.t 33) (.c (.d (.v (.int .i64 0)))), none⟩])
   (.cond (.t 34) (.seq (.reg [⟨(some 6), .mv (.c (.d (.v (.bool false)))), none⟩])
    (.ret)) (.skip)))
  (.seq (.reg [⟨(some 35), .mv (.t 1), none⟩,
      ⟨(some 36), .mv (.t 0), none⟩,
      ⟨(some 37), .len false (.t 36), none⟩,
      ⟨(some 38), .bin .mul (.t 37) (.c (.d (.v (.int .i64 4)))), none⟩,
      ⟨(some 39), .cvi .u32 (.t 38), none⟩,
      ⟨(some 40), .bin .rem (.t 35) (.t 39), none⟩,
      ⟨(some 9), .mv (.t 40), none⟩])
  (.seq (.reg [⟨(some 41), .mv (.t 9), none⟩,
      ⟨(some 42), .mv (.t 9), none⟩,
      ⟨(some 43), .bin .rem (.t 42) (.c (.d (.v (.int .u32 4)))), none⟩,
      ⟨(some 44), .bin .sub (.t 41) (.t 43), none⟩,
      ⟨(some 10), .mv (.t 44), none⟩])
  (.seq (.seq (.reg [⟨(some 45), .mv (.t 7), none⟩,
       ⟨(some 46), .mv (.t 9), none⟩,
       ⟨(some 47), .mv (.t 2), none⟩,
       ⟨(some 48), .call 9 [(.t 45), (.t 46), (.t 47)], none⟩,
       ⟨(some 49), .un .not (.t 48), none⟩])
   (.cond (.t 49) (.seq (.reg [⟨(some 6), .mv (.c (.d (.v (.bool false)))), none⟩])
    (.ret)) (.skip)))
  (.seq (.reg [⟨(some 51), .mv (.t 7), none⟩,
      ⟨(some 52), .mv (.t 10), none⟩,
      ⟨(some 53), .call 10 [(.t 51), (.t 52)], none⟩,
      ⟨(some 50), .mv (.t 53), none⟩,
      ⟨(some 54), .ext (.t 50) 0, none⟩,
      ⟨(some 55), .ext (.t 50) 1, none⟩,
      ⟨(some 11), .mv (.t 54), none⟩,
      ⟨(some 12), .mv (.t 55), none⟩])
  (.seq (.reg [⟨(some 13), .mv (.c (.d (.v (.int .u32 0)))), none⟩])
  (.seq (.seq (.reg [⟨(some 14), .mv (.c (.d (.v (.int .u32 0)))), none⟩])
   (.block 0 (.loop c3l0)))
  (.seq (.reg [⟨(some 111), .mv (.t 12), none⟩,
      ⟨(some 112), .mv (.t 111), none⟩,
      ⟨(some 113), .mv (.t 13), (some (112, true))⟩,
      ⟨(some 114), .mv (.t 11), (some (112, true))⟩,
      ⟨(some 115), .bin .eql (.t 113) (.t 114), (some (112, true))⟩,
      ⟨(some 116), .pick (.t 112) (.t 115) (.c (.d (.v (.bool false)))), none⟩,
      ⟨(some 117), .mv (.t 116), none⟩,
      ⟨(some 118), .call 7 [], (some (117, true))⟩,
      ⟨(some 119), .pick (.t 117) (.t 118) (.c (.d (.v (.bool false)))), none⟩,
      ⟨(some 6), .mv (.t 119), none⟩])
  (.ret)))))))))))
def r3 : List RC := [.t 6]

def c4l0 : AC :=
  .seq (.seq (.reg [⟨(some 131), .mv (.t 21), none⟩,
          ⟨(some 132), .mv (.t 0), none⟩,
          ⟨(some 133), .len false (.t 132), none⟩,
          ⟨(some 134), .bin .lss (.t 131) (.t 133), none⟩])
      (.cond (.t 134) (.skip) (.exit 0)))
     (.seq (.block 1 (.seq (.dreg [[], [0], [], [2], [1, 3], [4], [5], [5], [6, 7, 5], [8, 5], [5], [5], [10, 11, 5], [12, 5], [9, 13, 5], [14, 5, 5], [15], [15], [16, 17, 15], [18, 15], [15], [15], [20, 21, 15], [22, 15], [19, 23, 15], [15, 24, 5], [5, 25]] [⟨(some 137), .mv (.t 21), none⟩,
           ⟨(some 138), .cvi .u32 (.t 137), none⟩,
           ⟨(some 139), .mv (.t 10), none⟩,
           ⟨(some 140), .bin .quo (.t 139) (.c (.d (.v (.int .u32 4)))), none⟩,
           ⟨(some 141), .bin .neq (.t 138) (.t 140), none⟩,
           ⟨(some 142), .mv (.t 141), none⟩,
           ⟨(some 143), .mv (.t 17), (some (142, true))⟩,
           ⟨(some 144), .mv (.t 21), (some (142, true))⟩,
           ⟨(some 145), .ia (.t 143) (.t 144) 1, (some (142, true))⟩,
           ⟨(some 146), .ld (.t 145) 1 false, (some (142, true))⟩,
           ⟨(some 147), .mv (.t 0), (some (142, true))⟩,
           ⟨(some 148), .mv (.t 21), (some (142, true))⟩,
           ⟨(some 149), .ia (.t 147) (.t 148) 1, (some (142, true))⟩,
           ⟨(some 150), .ld (.t 149) 1 false, (some (142, true))⟩,
           ⟨(some 151), .bin .neq (.t 146) (.t 150), (some (142, true))⟩,
           ⟨(some 152), .mv (.t 151), (some (142, true))⟩,
           ⟨(some 153), .mv (.t 19), (some (152, false))⟩,
           ⟨(some 154), .mv (.t 21), (some (152, false))⟩,
           ⟨(some 155), .ia (.t 153) (.t 154) 1, (some (152, false))⟩,
           ⟨(some 156), .ld (.t 155) 1 false, (some (152, false))⟩,
           ⟨(some 157), .mv (.t 0), (some (152, false))⟩,
           ⟨(some 158), .mv (.t 21), (some (152, false))⟩,
           ⟨(some 159), .ia (.t 157) (.t 158) 1, (some (152, false))⟩,
           ⟨(some 160), .ld (.t 159) 1 false, (some (152, false))⟩,
           ⟨(some 161), .bin .neq (.t 156) (.t 160), (some (152, false))⟩,
           ⟨(some 162), .pick (.t 152) (.c (.d (.v (.bool true)))) (.t 161), (some (142, true))⟩,
           ⟨(some 163), .pick (.t 142) (.t 162) (.c (.d (.v (.bool false)))), none⟩])
       (.cond (.t 163) (.seq (.reg [⟨(some 6), .mv (.c (.d (.v (.bool false)))), none⟩])
        (.ret)) (.skip))))
     (.reg [⟨(some 135), .mv (.t 21), none⟩,
        ⟨(some 136), .bin .add (.t 135) (.c (.d (.v (.int .i64 1)))), none⟩,
        ⟨(some 21), .mv (.t 136), none⟩]))

/-- spinet/spinetlaw04.MemoryForks -/
def c4 : AC :=
  .seq (.reg [⟨(some 6), .mv (.c (.d (.v (.bool false)))), none⟩])
  (.seq (.seq (.reg [⟨(some 22), .mv (.t 0), none⟩,
       ⟨(some 23), .len false (.t 22), none⟩,
       ⟨(some 24), .bin .eql (.t 23) (.c (.d (.v (.int .i64 0)))), none⟩,
       ⟨(some 25), .mv (.t 24), none⟩,
       ⟨(some 26), .mv (.t 0), (some (25, false))⟩,
       ⟨(some 27), .len false (.t 26), (some (25, false))⟩,
       ⟨(some 28), .bin .gtr (.t 27) (.c (.d (.v (.int .i64 3000)))), (some (25, false))⟩,
       ⟨(some 29), .pick (.t 25) (.c (.d (.v (.bool true)))) (.t 28), none⟩])
   (.cond (.t 29) (.seq (.reg [⟨(some 30), .call 7 [], none⟩,
        ⟨(some 6), .mv (.t 30), none⟩])
    (.ret)) (.skip)))
  (.seq (.reg [⟨(some 32), .bs .gr 23 1 [], none⟩,
      ⟨(some 33), .mv (.t 0), none⟩,
      ⟨(some 34), .app .gr 23 1 4 (.t 32) (.t 33), none⟩,
      ⟨(some 35), .call 8 [(.t 34)], none⟩,
      ⟨(some 31), .mv (.t 35), none⟩,
      ⟨(some 36), .ext (.t 31) 0, none⟩,
      ⟨(some 37), .ext (.t 31) 1, none⟩,
      ⟨(some 7), .mv (.t 36), none⟩,
      ⟨(some 8), .mv (.t 37), none⟩])
  (.seq (.reg [⟨(some 38), .mv (.t 7), none⟩,
      ⟨(some 39), .call 12 [(.t 38)], none⟩,
      ⟨(some 9), .mv (.t 39), none⟩])
  (.seq (.reg [⟨(some 40), .mv (.t 1), none⟩,
      ⟨(some 41), .mv (.t 0), none⟩,
      ⟨(some 42), .len false (.t 41), none⟩,
      ⟨(some 43), .cvi .u32 (.t 42), none⟩,
      ⟨(some 44), .bin .rem (.t 40) (.t 43), none⟩,
      ⟨(some 45), .bin .mul (.t 44) (.c (.d (.v (.int .u32 4)))), none⟩,
      ⟨(some 10), .mv (.t 45), none⟩])
  (.seq (.seq (.reg [⟨(some 46), .mv (.t 8), none⟩,
       ⟨(some 47), .bin .neq (.t 46) (.c (.d (.v (.int .i64 0)))), none⟩,
       ⟨(some 48), .mv (.t 47), none⟩,
       ⟨(some 49), .mv (.t 9), (some (48, false))⟩,
       ⟨(some 50), .eqp false (.t 49) (.c .nilp), (some (48, false))⟩,
       ⟨(some 51), .pick (.t 48) (.c (.d (.v (.bool true)))) (.t 50), none⟩,
       ⟨(some 52), .mv (.t 51), none⟩,
       ⟨(some 53), .mv (.t 9), (some (52, false))⟩,
       ⟨(some 54), .mv (.t 10), (some (52, false))⟩,
       ⟨(some 55), .mv (.t 2), (some (52, false))⟩,
       ⟨(some 56), .call 13 [(.t 53), (.t 54), (.t 55)], (some (52, false))⟩,
       ⟨(some 57), .un .not (.t 56), (some (52, false))⟩,
       ⟨(some 58), .pick (.t 52) (.c (.d (.v (.bool true)))) (.t 57), none⟩])
   (.cond (.t 58) (.seq (.reg [⟨(some 6), .mv (.c (.d (.v (.bool false)))), none⟩])
    (.ret)) (.skip)))
  (.seq (.reg [⟨(some 60), .mv (.t 7), none⟩,
      ⟨(some 61), .mv (.t 10), none⟩,
      ⟨(some 62), .call 10 [(.t 60), (.t 61)], none⟩,
      ⟨(some 59), .mv (.t 62), none⟩,
      ⟨(some 63), .ext (.t 59) 0, none⟩,
      ⟨(some 64), .ext (.t 59) 1, none⟩,
      ⟨(some 11), .mv (.t 63), none⟩,
      ⟨(some 12), .mv (.t 64), none⟩])
  (.seq (.reg [⟨(some 66), .mv (.t 9), none⟩,
      ⟨(some 67), .mv (.t 10), none⟩,
      ⟨(some 68), .call 10 [(.t 66), (.t 67)], none⟩,
      ⟨(some 65), .mv (.t 68), none⟩,
      ⟨(some 69), .ext (.t 65) 0, none⟩,
      ⟨(some 70), .ext (.t 65) 1, none⟩,
      ⟨(some 13), .mv (.t 69), none⟩,
      ⟨(some 14), .mv (.t 70), none⟩])
  (.seq (.seq (.reg [⟨(some 71), .mv (.t 12), none⟩,
       ⟨(some 72), .un .not (.t 71), none⟩,
       ⟨(some 73), .mv (.t 72), none⟩,
       ⟨(some 74), .mv (.t 14), (some (73, false))⟩,
       ⟨(some 75), .un .not (.t 74), (some (73, false))⟩,
       ⟨(some 76), .pick (.t 73) (.c (.d (.v (.bool true)))) (.t 75), none⟩,
       ⟨(some 77), .mv (.t 76), none⟩,
       ⟨(some 78), .mv (.t 11), (some (77, false))⟩,
       ⟨(some 79), .mv (.t 0), (some (77, false))⟩,
       ⟨(some 80), .mv (.t 10), (some (77, false))⟩,
       ⟨(some 81), .bin .quo (.t 80) (.c (.d (.v (.int .u32 4)))), (some (77, false))⟩,
       ⟨(some 82), .ia (.t 79) (.t 81) 1, (some (77, false))⟩,
       ⟨(some 83), .ld (.t 82) 1 false, (some (77, false))⟩,
       ⟨(some 84), .bin .neq (.t 78) (.t 83), (some (77, false))⟩,
       ⟨(some 85), .pick (.t 77) (.c (.d (.v (.bool true)))) (.t 84), none⟩,
       ⟨(some 86), .mv (.t 85), none⟩,
       ⟨(some 87), .mv (.t 13), (some (86, false))⟩,
       ⟨(some 88), .mv (.t 2), (some (86, false))⟩,
       ⟨(some 89), .bin .neq (.t 87) (.t 88), (some (86, false))⟩,
       ⟨(some 90), .pick (.t 86) (.c (.d (.v (.bool true)))) (.t 89), none⟩,
       ⟨(some 91), .mv (.t 90), none⟩,
       ⟨(some 92), .mv (.t 7), (some (91, false))⟩,
       ⟨(some 93), .mv (.t 10), (some (91, false))⟩,
       ⟨(some 94), .mv (.t 2), (some (91, false))⟩,
       ⟨(some 95), .bin .add (.t 94) (.c (.d (.v (.int .u32 1)))), (some (91, false))⟩,
       ⟨(some 96), .call 13 [(.t 92), (.t 93), (.t 95)], (some (91, false))⟩,
       ⟨(some 97), .un .not (.t 96), (some (91, false))⟩,
       ⟨(some 98), .pick (.t 91) (.c (.d (.v (.bool true)))) (.t 97), none⟩])
   (.cond (.t 98) (.seq (.reg [⟨(some 6), .mv (.c (.d (.v (.bool false)))), none⟩])
    (.ret)) (.skip)))
  (.seq (.reg [⟨(some 100), .mv (.t 9), none⟩,
      ⟨(some 101), .mv (.t 10), none⟩,
      ⟨(some 102), .call 10 [(.t 100), (.t 101)], none⟩,
      ⟨(some 99), .mv (.t 102), none⟩,
      ⟨(some 103), .ext (.t 99) 0, none⟩,
      ⟨(some 104), .ext (.t 99) 1, none⟩,
      ⟨(some 15), .mv (.t 103), none⟩,
      ⟨(some 16), .mv (.t 104), none⟩])
  (.seq (.reg [⟨(some 106), .mv (.t 7), none⟩,
      ⟨(some 107), .mv (.t 0), none⟩,
      ⟨(some 108), .len false (.t 107), none⟩,
      ⟨(some 109), .call 14 [(.t 106), (.c (.d (.v (.int .i64 0)))), (.t 108)], none⟩,
      ⟨(some 105), .mv (.t 109), none⟩,
      ⟨(some 110), .ext (.t 105) 0, none⟩,
      ⟨(some 111), .ext (.t 105) 1, none⟩,
      ⟨(some 17), .mv (.t 110), none⟩,
      ⟨(some 18), .mv (.t 111), none⟩])
  (.seq (.reg [⟨(some 113), .mv (.t 9), none⟩,
      ⟨(some 114), .mv (.t 0), none⟩,
      ⟨(some 115), .len false (.t 114), none⟩,
      ⟨(some 116), .call 14 [(.t 113), (.c (.d (.v (.int .i64 0)))), (.t 115)], none⟩,
      ⟨(some 112), .mv (.t 116), none⟩,
      ⟨(some 117), .ext (.t 112) 0, none⟩,
      ⟨(some 118), .ext (.t 112) 1, none⟩,
      ⟨(some 19), .mv (.t 117), none⟩,
      ⟨(some 20), .mv (.t 118), none⟩])
  (.seq (.seq (.reg [⟨(some 119), .mv (.t 17), none⟩,
       ⟨(some 120), .len false (.t 119), none⟩,
       ⟨(some 121), .mv (.t 0), none⟩,
       ⟨(some 122), .len false (.t 121), none⟩,
       ⟨(some 123), .bin .neq (.t 120) (.t 122), none⟩,
       ⟨(some 124), .mv (.t 123), none⟩,
       ⟨(some 125), .mv (.t 19), (some (124, false))⟩,
       ⟨(some 126), .len false (.t 125), (some (124, false))⟩,
       ⟨(some 127), .mv (.t 0), (some (124, false))⟩,
       ⟨(some 128), .len false (.t 127), (some (124, false))⟩,
       ⟨(some 129), .bin .neq (.t 126) (.t 128), (some (124, false))⟩,
       ⟨(some 130), .pick (.t 124) (.c (.d (.v (.bool true)))) (.t 129), none⟩])
   (.cond (.t 130) (.seq (.reg [⟨(some 6), .mv (.c (.d (.v (.bool false)))), none⟩])
    (.ret)) (.skip)))
  (.seq (.seq (.reg [⟨(some 21), .mv (.c (.d (.v (.int .i64 0)))), none⟩])
   (.block 0 (.loop c4l0)))
  (.seq (.reg [⟨(some 164), .mv (.t 15), none⟩,
      ⟨(some 165), .mv (.t 2), none⟩,
      ⟨(some 166), .bin .eql (.t 164) (.t 165), none⟩,
      ⟨(some 167), .mv (.t 166), none⟩,
      ⟨(some 168), .call 7 [], (some (167, true))⟩,
      ⟨(some 169), .pick (.t 167) (.t 168) (.c (.d (.v (.bool false)))), none⟩,
      ⟨(some 6), .mv (.t 169), none⟩])
  (.ret)))))))))))))))
def r4 : List RC := [.t 6]

def c5l0 : AC :=
  .seq (.seq (.reg [⟨(some 77), .mv (.t 10), none⟩,
          ⟨(some 78), .mv (.t 1), none⟩,
          ⟨(some 79), .len false (.t 78), none⟩,
          ⟨(some 80), .bin .lss (.t 77) (.t 79), none⟩,
          ⟨(some 81), .mv (.t 80), none⟩,
          ⟨(some 82), .mv (.t 10), (some (81, true))⟩,
          ⟨(some 83), .bin .lss (.t 82) (.c (.d (.v (.int .i64 60)))), (some (81, true))⟩,
          ⟨(some 84), .pick (.t 81) (.t 83) (.c (.d (.v (.bool false)))), none⟩])
      (.cond (.t 84) (.skip) (.exit 0)))
     (.seq (.block 1 (.seq (.reg [⟨(some 87), .mv (.t 1), none⟩,
           ⟨(some 88), .mv (.t 10), none⟩,
           ⟨(some 89), .ia (.t 87) (.t 88) 5, none⟩,
           ⟨(some 90), .ld (.t 89) 5 true, none⟩,
           ⟨(some 11), .al [(.d (.v (.int .i64 0))), (.d (.v (.int .u32 0))), (.d (.v (.int .u32 0))), (.d (.v (.int .i64 0))), (.d (.v (.int .i64 0)))], none⟩,
           ⟨none, .st (.t 11) (.t 90) 5, none⟩])
       (.seq (.reg [⟨(some 91), .fa (.t 11) 0, none⟩,
           ⟨(some 92), .ld (.t 91) 1 false, none⟩])
       (.block 2 (.seq (.reg [⟨(some 94), .bin .eql (.t 92) (.c (.d (.v (.int .i64 0)))), none⟩,
            ⟨(some 93), .mv (.t 94), none⟩])
        (.cond (.t 93) (.seq (.reg [⟨(some 96), .mv (.t 6), none⟩,
             ⟨(some 97), .fa (.t 11) 1, none⟩,
             ⟨(some 98), .ld (.t 97) 1 false, none⟩,
             ⟨(some 99), .call 10 [(.t 96), (.t 98)], none⟩,
             ⟨(some 95), .mv (.t 99), none⟩,
             ⟨(some 100), .ext (.t 95) 0, none⟩,
             ⟨(some 101), .ext (.t 95) 1, none⟩,
             ⟨(some 12), .mv (.t 100), none⟩,
             ⟨(some 13), .mv (.t 101), none⟩])
         (.seq (.reg [⟨(some 103), .mv (.t 8), none⟩,
             ⟨(some 104), .fa (.t 11) 1, none⟩,
             ⟨(some 105), .ld (.t 104) 1 false, none⟩,
             ⟨(some 106), .call 19 [(.t 103), (.t 105)], none⟩,
             ⟨(some 102), .mv (.t 106), none⟩,
             ⟨(some 107), .ext (.t 102) 0, none⟩,
             ⟨(some 108), .ext (.t 102) 1, none⟩,
             ⟨(some 14), .mv (.t 107), none⟩,
             ⟨(some 15), .mv (.t 108), none⟩])
         (.seq (.reg [⟨(some 109), .mv (.t 12), none⟩,
             ⟨(some 110), .mv (.t 14), none⟩,
             ⟨(some 111), .bin .neq (.t 109) (.t 110), none⟩,
             ⟨(some 112), .mv (.t 111), none⟩,
             ⟨(some 113), .mv (.t 13), (some (112, false))⟩,
             ⟨(some 114), .mv (.t 15), (some (112, false))⟩,
             ⟨(some 115), .eqs true (.t 113) (.t 114), (some (112, false))⟩,
             ⟨(some 116), .pick (.t 112) (.c (.d (.v (.bool true)))) (.t 115), none⟩])
         (.cond (.t 116) (.seq (.reg [⟨(some 4), .mv (.c (.d (.v (.bool false)))), none⟩])
          (.ret)) (.skip))))) (.seq (.reg [⟨(some 118), .bin .eql (.t 92) (.c (.d (.v (.int .i64 1)))), none⟩,
             ⟨(some 117), .mv (.t 118), none⟩])
         (.cond (.t 117) (.seq (.dreg [[], [], [1], [], [3], [0, 2, 4], [], [], [7], [], [9], [6, 8, 10, 5], [5, 11]] [⟨(some 119), .mv (.t 6), none⟩,
              ⟨(some 120), .fa (.t 11) 1, none⟩,
              ⟨(some 121), .ld (.t 120) 1 false, none⟩,
              ⟨(some 122), .fa (.t 11) 2, none⟩,
              ⟨(some 123), .ld (.t 122) 1 false, none⟩,
              ⟨(some 124), .call 13 [(.t 119), (.t 121), (.t 123)], none⟩,
              ⟨(some 125), .mv (.t 8), none⟩,
              ⟨(some 126), .fa (.t 11) 1, none⟩,
              ⟨(some 127), .ld (.t 126) 1 false, none⟩,
              ⟨(some 128), .fa (.t 11) 2, none⟩,
              ⟨(some 129), .ld (.t 128) 1 false, none⟩,
              ⟨(some 130), .call 20 [(.t 125), (.t 127), (.t 129)], none⟩,
              ⟨(some 131), .eqs true (.t 124) (.t 130), none⟩])
          (.cond (.t 131) (.seq (.reg [⟨(some 4), .mv (.c (.d (.v (.bool false)))), none⟩])
           (.ret)) (.skip))) (.seq (.reg [⟨(some 133), .bin .eql (.t 92) (.c (.d (.v (.int .i64 2)))), none⟩,
              ⟨(some 132), .mv (.t 133), none⟩])
          (.cond (.t 132) (.seq (.reg [⟨(some 135), .mv (.t 6), none⟩,
               ⟨(some 136), .fa (.t 11) 1, none⟩,
               ⟨(some 137), .ld (.t 136) 1 false, none⟩,
               ⟨(some 138), .call 11 [(.t 135), (.t 137)], none⟩,
               ⟨(some 134), .mv (.t 138), none⟩,
               ⟨(some 139), .ext (.t 134) 0, none⟩,
               ⟨(some 140), .ext (.t 134) 1, none⟩,
               ⟨(some 16), .mv (.t 139), none⟩,
               ⟨(some 17), .mv (.t 140), none⟩])
           (.seq (.reg [⟨(some 142), .mv (.t 8), none⟩,
               ⟨(some 143), .fa (.t 11) 1, none⟩,
               ⟨(some 144), .ld (.t 143) 1 false, none⟩,
               ⟨(some 145), .call 21 [(.t 142), (.t 144)], none⟩,
               ⟨(some 141), .mv (.t 145), none⟩,
               ⟨(some 146), .ext (.t 141) 0, none⟩,
               ⟨(some 147), .ext (.t 141) 1, none⟩,
               ⟨(some 18), .mv (.t 146), none⟩,
               ⟨(some 19), .mv (.t 147), none⟩])
           (.seq (.reg [⟨(some 148), .mv (.t 16), none⟩,
               ⟨(some 149), .mv (.t 18), none⟩,
               ⟨(some 150), .bin .neq (.t 148) (.t 149), none⟩,
               ⟨(some 151), .mv (.t 150), none⟩,
               ⟨(some 152), .mv (.t 17), (some (151, false))⟩,
               ⟨(some 153), .mv (.t 19), (some (151, false))⟩,
               ⟨(some 154), .eqs true (.t 152) (.t 153), (some (151, false))⟩,
               ⟨(some 155), .pick (.t 151) (.c (.d (.v (.bool true)))) (.t 154), none⟩])
           (.cond (.t 155) (.seq (.reg [⟨(some 4), .mv (.c (.d (.v (.bool false)))), none⟩])
            (.ret)) (.skip))))) (.seq (.reg [⟨(some 157), .bin .eql (.t 92) (.c (.d (.v (.int .i64 3)))), none⟩,
               ⟨(some 156), .mv (.t 157), none⟩])
           (.cond (.t 156) (.seq (.dreg [[], [], [1], [], [3], [0, 2, 4], [], [], [7], [], [9], [6, 8, 10, 5], [5, 11]] [⟨(some 158), .mv (.t 6), none⟩,
                ⟨(some 159), .fa (.t 11) 1, none⟩,
                ⟨(some 160), .ld (.t 159) 1 false, none⟩,
                ⟨(some 161), .fa (.t 11) 2, none⟩,
                ⟨(some 162), .ld (.t 161) 1 false, none⟩,
                ⟨(some 163), .call 9 [(.t 158), (.t 160), (.t 162)], none⟩,
                ⟨(some 164), .mv (.t 8), none⟩,
                ⟨(some 165), .fa (.t 11) 1, none⟩,
                ⟨(some 166), .ld (.t 165) 1 false, none⟩,
                ⟨(some 167), .fa (.t 11) 2, none⟩,
                ⟨(some 168), .ld (.t 167) 1 false, none⟩,
                ⟨(some 169), .call 22 [(.t 164), (.t 166), (.t 168)], none⟩,
                ⟨(some 170), .eqs true (.t 163) (.t 169), none⟩])
            (.cond (.t 170) (.seq (.reg [⟨(some 4), .mv (.c (.d (.v (.bool false)))), none⟩])
             (.ret)) (.skip))) (.seq (.reg [⟨(some 172), .bin .eql (.t 92) (.c (.d (.v (.int .i64 4)))), none⟩,
                ⟨(some 171), .mv (.t 172), none⟩])
            (.cond (.t 171) (.seq (.reg [⟨(some 174), .mv (.t 6), none⟩,
                 ⟨(some 175), .fa (.t 11) 3, none⟩,
                 ⟨(some 176), .ld (.t 175) 1 false, none⟩,
                 ⟨(some 177), .fa (.t 11) 4, none⟩,
                 ⟨(some 178), .ld (.t 177) 1 false, none⟩,
                 ⟨(some 179), .call 14 [(.t 174), (.t 176), (.t 178)], none⟩,
                 ⟨(some 173), .mv (.t 179), none⟩,
                 ⟨(some 180), .ext (.t 173) 0, none⟩,
                 ⟨(some 181), .ext (.t 173) 1, none⟩,
                 ⟨(some 20), .mv (.t 180), none⟩,
                 ⟨(some 21), .mv (.t 181), none⟩])
             (.seq (.reg [⟨(some 183), .mv (.t 8), none⟩,
                 ⟨(some 184), .fa (.t 11) 3, none⟩,
                 ⟨(some 185), .ld (.t 184) 1 false, none⟩,
                 ⟨(some 186), .fa (.t 11) 4, none⟩,
                 ⟨(some 187), .ld (.t 186) 1 false, none⟩,
                 ⟨(some 188), .call 23 [(.t 183), (.t 185), (.t 187)], none⟩,
                 ⟨(some 182), .mv (.t 188), none⟩,
                 ⟨(some 189), .ext (.t 182) 0, none⟩,
                 ⟨(some 190), .ext (.t 182) 1, none⟩,
                 ⟨(some 22), .mv (.t 189), none⟩,
                 ⟨(some 23), .mv (.t 190), none⟩])
             (.seq (.reg [⟨(some 191), .mv (.t 21), none⟩,
                 ⟨(some 192), .mv (.t 23), none⟩,
                 ⟨(some 193), .eqs true (.t 191) (.t 192), none⟩,
                 ⟨(some 194), .mv (.t 193), none⟩,
                 ⟨(some 195), .mv (.t 20), (some (194, false))⟩,
                 ⟨(some 196), .mv (.t 22), (some (194, false))⟩,
                 ⟨(some 197), .call 18 [(.t 195), (.t 196)], (some (194, false))⟩,
                 ⟨(some 198), .un .not (.t 197), (some (194, false))⟩,
                 ⟨(some 199), .pick (.t 194) (.c (.d (.v (.bool true)))) (.t 198), none⟩])
             (.cond (.t 199) (.seq (.reg [⟨(some 4), .mv (.c (.d (.v (.bool false)))), none⟩])
              (.ret)) (.skip))))) (.seq (.reg [⟨(some 201), .bin .eql (.t 92) (.c (.d (.v (.int .i64 5)))), none⟩,
                 ⟨(some 200), .mv (.t 201), none⟩])
             (.cond (.t 200) (.seq (.reg [⟨(some 202), .mv (.t 6), none⟩,
                  ⟨(some 203), .mv (.t 8), none⟩,
                  ⟨(some 24), .mv (.t 202), none⟩,
                  ⟨(some 25), .mv (.t 203), none⟩])
              (.seq (.reg [⟨(some 204), .mv (.t 6), none⟩,
                  ⟨(some 205), .call 12 [(.t 204)], none⟩,
                  ⟨(some 206), .mv (.t 8), none⟩,
                  ⟨(some 207), .call 24 [(.t 206)], none⟩,
                  ⟨(some 6), .mv (.t 205), none⟩,
                  ⟨(some 8), .mv (.t 207), none⟩])
              (.seq (.seq (.dreg [[], [], [1], [0, 2], [], [], [5], [4, 6, 3], [3, 7]] [⟨(some 208), .mv (.t 6), none⟩,
                   ⟨(some 209), .fa (.t 11) 2, none⟩,
                   ⟨(some 210), .ld (.t 209) 1 false, none⟩,
                   ⟨(some 211), .call 13 [(.t 208), (.c (.d (.v (.int .u32 0)))), (.t 210)], none⟩,
                   ⟨(some 212), .mv (.t 8), none⟩,
                   ⟨(some 213), .fa (.t 11) 2, none⟩,
                   ⟨(some 214), .ld (.t 213) 1 false, none⟩,
                   ⟨(some 215), .call 20 [(.t 212), (.c (.d (.v (.int .u32 0)))), (.t 214)], none⟩,
                   ⟨(some 216), .eqs true (.t 211) (.t 215), none⟩])
               (.cond (.t 216) (.seq (.reg [⟨(some 4), .mv (.c (.d (.v (.bool false)))), none⟩])
                (.ret)) (.skip)))
              (.seq (.reg [⟨(some 218), .mv (.t 24), none⟩,
                  ⟨(some 219), .call 10 [(.t 218), (.c (.d (.v (.int .u32 0))))], none⟩,
                  ⟨(some 217), .mv (.t 219), none⟩,
                  ⟨(some 220), .ext (.t 217) 0, none⟩,
                  ⟨(some 221), .ext (.t 217) 1, none⟩,
                  ⟨(some 26), .mv (.t 220), none⟩,
                  ⟨(some 27), .mv (.t 221), none⟩])
              (.seq (.reg [⟨(some 223), .mv (.t 25), none⟩,
                  ⟨(some 224), .call 19 [(.t 223), (.c (.d (.v (.int .u32 0))))], none⟩,
                  ⟨(some 222), .mv (.t 224), none⟩,
                  ⟨(some 225), .ext (.t 222) 0, none⟩,
                  ⟨(some 226), .ext (.t 222) 1, none⟩,
                  ⟨(some 28), .mv (.t 225), none⟩,
                  ⟨(some 29), .mv (.t 226), none⟩])
              (.seq (.reg [⟨(some 227), .mv (.t 26), none⟩,
                  ⟨(some 228), .mv (.t 28), none⟩,
                  ⟨(some 229), .bin .neq (.t 227) (.t 228), none⟩])
              (.cond (.t 229) (.seq (.reg [⟨(some 4), .mv (.c (.d (.v (.bool false)))), none⟩])
               (.ret)) (.skip)))))))) (.skip)))))))))))))))))
     (.reg [⟨(some 85), .mv (.t 10), none⟩,
        ⟨(some 86), .bin .add (.t 85) (.c (.d (.v (.int .i64 1)))), none⟩,
        ⟨(some 10), .mv (.t 86), none⟩]))

/-- spinet/spinetlaw04.MemoryPlays -/
def c5 : AC :=
  .seq (.reg [⟨(some 4), .mv (.c (.d (.v (.bool false)))), none⟩])
  (.seq (.seq (.reg [⟨(some 34), .mv (.t 0), none⟩,
       ⟨(some 35), .len false (.t 34), none⟩,
       ⟨(some 36), .bin .gtr (.t 35) (.c (.d (.v (.int .i64 3000)))), none⟩,
       ⟨(some 37), .mv (.t 36), none⟩,
       ⟨(some 38), .mv (.t 0), (some (37, true))⟩,
       ⟨(some 39), .len false (.t 38), (some (37, true))⟩,
       ⟨(some 40), .bin .leq (.t 39) (.c (.d (.v (.int .i64 65536)))), (some (37, true))⟩,
       ⟨(some 41), .pick (.t 37) (.t 40) (.c (.d (.v (.bool false)))), none⟩,
       ⟨(some 42), .mv (.t 41), none⟩,
       ⟨(some 43), .mv (.t 0), (some (42, false))⟩,
       ⟨(some 44), .len false (.t 43), (some (42, false))⟩,
       ⟨(some 45), .bin .gtr (.t 44) (.c (.d (.v (.int .i64 70000)))), (some (42, false))⟩,
       ⟨(some 46), .pick (.t 42) (.c (.d (.v (.bool true)))) (.t 45), none⟩])
   (.cond (.t 46) (.seq (.reg [⟨(some 47), .call 7 [], none⟩,
        ⟨(some 4), .mv (.t 47), none⟩])
    (.ret)) (.skip)))
  (.seq (.reg [⟨(some 48), .bs .gr 23 1 [], none⟩,
      ⟨(some 49), .mv (.t 0), none⟩,
      ⟨(some 50), .app .gr 23 1 4 (.t 48) (.t 49), none⟩,
      ⟨(some 5), .mv (.t 50), none⟩])
  (.seq (.reg [⟨(some 52), .mv (.t 5), none⟩,
      ⟨(some 53), .call 8 [(.t 52)], none⟩,
      ⟨(some 51), .mv (.t 53), none⟩,
      ⟨(some 54), .ext (.t 51) 0, none⟩,
      ⟨(some 55), .ext (.t 51) 1, none⟩,
      ⟨(some 6), .mv (.t 54), none⟩,
      ⟨(some 7), .mv (.t 55), none⟩])
  (.seq (.reg [⟨(some 57), .mv (.t 0), none⟩,
      ⟨(some 58), .call 15 [(.t 57)], none⟩,
      ⟨(some 56), .mv (.t 58), none⟩,
      ⟨(some 59), .ext (.t 56) 0, none⟩,
      ⟨(some 60), .ext (.t 56) 1, none⟩,
      ⟨(some 8), .mv (.t 59), none⟩,
      ⟨(some 9), .mv (.t 60), none⟩])
  (.seq (.seq (.reg [⟨(some 61), .mv (.t 7), none⟩,
       ⟨(some 62), .mv (.t 9), none⟩,
       ⟨(some 63), .bin .neq (.t 61) (.t 62), none⟩,
       ⟨(some 64), .mv (.t 63), none⟩,
       ⟨(some 65), .mv (.t 6), (some (64, false))⟩,
       ⟨(some 66), .call 16 [(.t 65)], (some (64, false))⟩,
       ⟨(some 67), .mv (.t 8), (some (64, false))⟩,
       ⟨(some 68), .call 17 [(.t 67)], (some (64, false))⟩,
       ⟨(some 69), .bin .neq (.t 66) (.t 68), (some (64, false))⟩,
       ⟨(some 70), .pick (.t 64) (.c (.d (.v (.bool true)))) (.t 69), none⟩,
       ⟨(some 71), .mv (.t 70), none⟩,
       ⟨(some 72), .mv (.t 5), (some (71, false))⟩,
       ⟨(some 73), .mv (.t 0), (some (71, false))⟩,
       ⟨(some 74), .call 18 [(.t 72), (.t 73)], (some (71, false))⟩,
       ⟨(some 75), .un .not (.t 74), (some (71, false))⟩,
       ⟨(some 76), .pick (.t 71) (.c (.d (.v (.bool true)))) (.t 75), none⟩])
   (.cond (.t 76) (.seq (.reg [⟨(some 4), .mv (.c (.d (.v (.bool false)))), none⟩])
    (.ret)) (.skip)))
  (.seq (.seq (.reg [⟨(some 10), .mv (.c (.d (.v (.int .i64 0)))), none⟩])
   (.block 0 (.loop c5l0)))
  (.seq (.reg [⟨(some 231), .mv (.t 6), none⟩,
      ⟨(some 232), .mv (.t 6), none⟩,
      ⟨(some 233), .call 16 [(.t 232)], none⟩,
      ⟨(some 234), .call 14 [(.t 231), (.c (.d (.v (.int .i64 0)))), (.t 233)], none⟩,
      ⟨(some 230), .mv (.t 234), none⟩,
      ⟨(some 235), .ext (.t 230) 0, none⟩,
      ⟨(some 236), .ext (.t 230) 1, none⟩,
      ⟨(some 30), .mv (.t 235), none⟩,
      ⟨(some 31), .mv (.t 236), none⟩])
  (.seq (.reg [⟨(some 238), .mv (.t 8), none⟩,
      ⟨(some 239), .mv (.t 8), none⟩,
      ⟨(some 240), .call 17 [(.t 239)], none⟩,
      ⟨(some 241), .call 23 [(.t 238), (.c (.d (.v (.int .i64 0)))), (.t 240)], none⟩,
      ⟨(some 237), .mv (.t 241), none⟩,
      ⟨(some 242), .ext (.t 237) 0, none⟩,
      ⟨(some 243), .ext (.t 237) 1, none⟩,
      ⟨(some 32), .mv (.t 242), none⟩,
      ⟨(some 33), .mv (.t 243), none⟩])
  (.seq (.reg [⟨(some 244), .mv (.t 31), none⟩,
      ⟨(some 245), .mv (.t 33), none⟩,
      ⟨(some 246), .eqs false (.t 244) (.t 245), none⟩,
      ⟨(some 247), .mv (.t 246), none⟩,
      ⟨(some 248), .mv (.t 30), (some (247, true))⟩,
      ⟨(some 249), .mv (.t 32), (some (247, true))⟩,
      ⟨(some 250), .call 18 [(.t 248), (.t 249)], (some (247, true))⟩,
      ⟨(some 251), .pick (.t 247) (.t 250) (.c (.d (.v (.bool false)))), none⟩,
      ⟨(some 252), .mv (.t 251), none⟩,
      ⟨(some 253), .call 7 [], (some (252, true))⟩,
      ⟨(some 254), .pick (.t 252) (.t 253) (.c (.d (.v (.bool false)))), none⟩,
      ⟨(some 4), .mv (.t 254), none⟩])
  (.ret))))))))))
def r5 : List RC := [.t 4]

/-- spinet/spinetlaw04.MemoryEnds -/
def c6 : AC :=
  .seq (.reg [⟨(some 4), .mv (.c (.d (.v (.bool false)))), none⟩])
  (.seq (.reg [⟨(some 19), .mv (.t 0), none⟩,
      ⟨(some 20), .cvi .i64 (.t 19), none⟩,
      ⟨(some 21), .bin .rem (.t 20) (.c (.d (.v (.int .i64 70)))), none⟩,
      ⟨(some 5), .mv (.t 21), none⟩])
  (.seq (.reg [⟨(some 23), .mv (.t 5), none⟩,
      ⟨(some 24), .mks .hp 23 1 4 [(.d (.v (.int .u32 0)))] (.t 23) (.t 23), none⟩,
      ⟨(some 25), .call 8 [(.t 24)], none⟩,
      ⟨(some 22), .mv (.t 25), none⟩,
      ⟨(some 26), .ext (.t 22) 0, none⟩,
      ⟨(some 27), .ext (.t 22) 1, none⟩,
      ⟨(some 6), .mv (.t 26), none⟩,
      ⟨(some 7), .mv (.t 27), none⟩])
  (.seq (.reg [⟨(some 29), .mv (.t 6), none⟩,
      ⟨(some 30), .mv (.t 1), none⟩,
      ⟨(some 31), .call 10 [(.t 29), (.t 30)], none⟩,
      ⟨(some 28), .mv (.t 31), none⟩,
      ⟨(some 32), .ext (.t 28) 0, none⟩,
      ⟨(some 33), .ext (.t 28) 1, none⟩,
      ⟨(some 8), .mv (.t 32), none⟩,
      ⟨(some 9), .mv (.t 33), none⟩])
  (.seq (.reg [⟨(some 35), .mv (.t 6), none⟩,
      ⟨(some 36), .mv (.t 1), none⟩,
      ⟨(some 37), .call 11 [(.t 35), (.t 36)], none⟩,
      ⟨(some 34), .mv (.t 37), none⟩,
      ⟨(some 38), .ext (.t 34) 0, none⟩,
      ⟨(some 39), .ext (.t 34) 1, none⟩,
      ⟨(some 10), .mv (.t 38), none⟩,
      ⟨(some 11), .mv (.t 39), none⟩])
  (.seq (.reg [⟨(some 12), .mv (.c .nilp), none⟩])
  (.seq (.reg [⟨(some 41), .mv (.t 12), none⟩,
      ⟨(some 42), .mv (.t 1), none⟩,
      ⟨(some 43), .call 10 [(.t 41), (.t 42)], none⟩,
      ⟨(some 40), .mv (.t 43), none⟩,
      ⟨(some 44), .ext (.t 40) 0, none⟩,
      ⟨(some 45), .ext (.t 40) 1, none⟩,
      ⟨(some 13), .mv (.t 44), none⟩,
      ⟨(some 14), .mv (.t 45), none⟩])
  (.seq (.reg [⟨(some 47), .mv (.t 12), none⟩,
      ⟨(some 48), .mv (.t 1), none⟩,
      ⟨(some 49), .call 11 [(.t 47), (.t 48)], none⟩,
      ⟨(some 46), .mv (.t 49), none⟩,
      ⟨(some 50), .ext (.t 46) 0, none⟩,
      ⟨(some 51), .ext (.t 46) 1, none⟩,
      ⟨(some 15), .mv (.t 50), none⟩,
      ⟨(some 16), .mv (.t 51), none⟩])
  (.seq (.reg [⟨(some 53), .mv (.t 12), none⟩,
      ⟨(some 54), .call 14 [(.t 53), (.c (.d (.v (.int .i64 0)))), (.c (.d (.v (.int .i64 0))))], none⟩,
      ⟨(some 52), .mv (.t 54), none⟩,
      ⟨(some 55), .ext (.t 52) 0, none⟩,
      ⟨(some 56), .ext (.t 52) 1, none⟩,
      ⟨(some 17), .mv (.t 55), none⟩,
      ⟨(some 18), .mv (.t 56), none⟩])
  (.seq (.reg [⟨(some 57), .mv (.t 7), none⟩,
      ⟨(some 58), .bin .eql (.t 57) (.c (.d (.v (.int .i64 0)))), none⟩,
      ⟨(some 59), .mv (.t 58), none⟩,
      ⟨(some 60), .mv (.t 9), (some (59, true))⟩,
      ⟨(some 61), .mv (.t 1), (some (59, true))⟩,
      ⟨(some 62), .bin .rem (.t 61) (.c (.d (.v (.int .u32 4)))), (some (59, true))⟩,
      ⟨(some 63), .bin .eql (.t 62) (.c (.d (.v (.int .u32 0)))), (some (59, true))⟩,
      ⟨(some 64), .mv (.t 63), (some (59, true))⟩,
      ⟨(some 65), .mv (.t 1), (some (64, true))⟩,
      ⟨(some 66), .bin .quo (.t 65) (.c (.d (.v (.int .u32 4)))), (some (64, true))⟩,
      ⟨(some 67), .mv (.t 5), (some (64, true))⟩,
      ⟨(some 68), .cvi .u32 (.t 67), (some (64, true))⟩,
      ⟨(some 69), .bin .lss (.t 66) (.t 68), (some (64, true))⟩,
      ⟨(some 70), .pick (.t 64) (.t 69) (.c (.d (.v (.bool false)))), (some (59, true))⟩,
      ⟨(some 71), .eqs false (.t 60) (.t 70), (some (59, true))⟩,
      ⟨(some 72), .pick (.t 59) (.t 71) (.c (.d (.v (.bool false)))), none⟩,
      ⟨(some 73), .mv (.t 72), none⟩,
      ⟨(some 74), .mv (.t 11), (some (73, true))⟩,
      ⟨(some 75), .mv (.t 1), (some (73, true))⟩,
      ⟨(some 76), .bin .quo (.t 75) (.c (.d (.v (.int .u32 4)))), (some (73, true))⟩,
      ⟨(some 77), .mv (.t 5), (some (73, true))⟩,
      ⟨(some 78), .cvi .u32 (.t 77), (some (73, true))⟩,
      ⟨(some 79), .bin .lss (.t 76) (.t 78), (some (73, true))⟩,
      ⟨(some 80), .eqs false (.t 74) (.t 79), (some (73, true))⟩,
      ⟨(some 81), .pick (.t 73) (.t 80) (.c (.d (.v (.bool false)))), none⟩,
      ⟨(some 82), .mv (.t 81), none⟩,
      ⟨(some 83), .mv (.t 14), (some (82, true))⟩,
      ⟨(some 84), .un .not (.t 83), (some (82, true))⟩,
      ⟨(some 85), .pick (.t 82) (.t 84) (.c (.d (.v (.bool false)))), none⟩,
      ⟨(some 86), .mv (.t 85), none⟩,
      ⟨(some 87), .mv (.t 16), (some (86, true))⟩,
      ⟨(some 88), .un .not (.t 87), (some (86, true))⟩,
      ⟨(some 89), .pick (.t 86) (.t 88) (.c (.d (.v (.bool false)))), none⟩,
      ⟨(some 90), .mv (.t 89), none⟩,
      ⟨(some 91), .mv (.t 18), (some (90, true))⟩,
      ⟨(some 92), .pick (.t 90) (.t 91) (.c (.d (.v (.bool false)))), none⟩,
      ⟨(some 93), .mv (.t 92), none⟩,
      ⟨(some 94), .mv (.t 17), (some (93, true))⟩,
      ⟨(some 95), .len false (.t 94), (some (93, true))⟩,
      ⟨(some 96), .bin .eql (.t 95) (.c (.d (.v (.int .i64 0)))), (some (93, true))⟩,
      ⟨(some 97), .pick (.t 93) (.t 96) (.c (.d (.v (.bool false)))), none⟩,
      ⟨(some 98), .mv (.t 97), none⟩,
      ⟨(some 99), .mv (.t 12), (some (98, true))⟩,
      ⟨(some 100), .call 16 [(.t 99)], (some (98, true))⟩,
      ⟨(some 101), .bin .eql (.t 100) (.c (.d (.v (.int .i64 0)))), (some (98, true))⟩,
      ⟨(some 102), .pick (.t 98) (.t 101) (.c (.d (.v (.bool false)))), none⟩,
      ⟨(some 103), .mv (.t 102), none⟩,
      ⟨(some 104), .mv (.t 12), (some (103, true))⟩,
      ⟨(some 105), .call 12 [(.t 104)], (some (103, true))⟩,
      ⟨(some 106), .eqp false (.t 105) (.c .nilp), (some (103, true))⟩,
      ⟨(some 107), .pick (.t 103) (.t 106) (.c (.d (.v (.bool false)))), none⟩,
      ⟨(some 108), .mv (.t 107), none⟩,
      ⟨(some 109), .mv (.t 12), (some (108, true))⟩,
      ⟨(some 110), .mv (.t 1), (some (108, true))⟩,
      ⟨(some 111), .call 13 [(.t 109), (.t 110), (.c (.d (.v (.int .u32 1))))], (some (108, true))⟩,
      ⟨(some 112), .un .not (.t 111), (some (108, true))⟩,
      ⟨(some 113), .pick (.t 108) (.t 112) (.c (.d (.v (.bool false)))), none⟩,
      ⟨(some 114), .mv (.t 113), none⟩,
      ⟨(some 115), .mv (.t 12), (some (114, true))⟩,
      ⟨(some 116), .mv (.t 1), (some (114, true))⟩,
      ⟨(some 117), .call 9 [(.t 115), (.t 116), (.c (.d (.v (.int .u32 1))))], (some (114, true))⟩,
      ⟨(some 118), .un .not (.t 117), (some (114, true))⟩,
      ⟨(some 119), .pick (.t 114) (.t 118) (.c (.d (.v (.bool false)))), none⟩,
      ⟨(some 120), .mv (.t 119), none⟩,
      ⟨(some 121), .call 7 [], (some (120, true))⟩,
      ⟨(some 122), .pick (.t 120) (.t 121) (.c (.d (.v (.bool false)))), none⟩,
      ⟨(some 4), .mv (.t 122), none⟩])
  (.ret))))))))))
def r6 : List RC := [.t 4]

/-- spinet/spinetlaw04.wakes -/
def c7 : AC :=
  .seq (.reg [⟨(some 0), .mv (.c (.d (.v (.bool false)))), none⟩])
  (.seq (.reg [⟨(some 10), .bs .im 23 1 [(.c (.d (.v (.int .u32 67305985))))], none⟩,
      ⟨(some 11), .call 8 [(.t 10)], none⟩,
      ⟨(some 9), .mv (.t 11), none⟩,
      ⟨(some 12), .ext (.t 9) 0, none⟩,
      ⟨(some 13), .ext (.t 9) 1, none⟩,
      ⟨(some 1), .mv (.t 12), none⟩,
      ⟨(some 2), .mv (.t 13), none⟩])
  (.seq (.reg [⟨(some 15), .mv (.t 1), none⟩,
      ⟨(some 16), .call 11 [(.t 15), (.c (.d (.v (.int .u32 2))))], none⟩,
      ⟨(some 14), .mv (.t 16), none⟩,
      ⟨(some 17), .ext (.t 14) 0, none⟩,
      ⟨(some 18), .ext (.t 14) 1, none⟩,
      ⟨(some 3), .mv (.t 17), none⟩,
      ⟨(some 4), .mv (.t 18), none⟩])
  (.seq (.reg [⟨(some 20), .mv (.t 1), none⟩,
      ⟨(some 21), .call 10 [(.t 20), (.c (.d (.v (.int .u32 2))))], none⟩,
      ⟨(some 19), .mv (.t 21), none⟩,
      ⟨(some 22), .ext (.t 19) 0, none⟩,
      ⟨(some 23), .ext (.t 19) 1, none⟩,
      ⟨(some 5), .mv (.t 22), none⟩,
      ⟨(some 6), .mv (.t 23), none⟩])
  (.seq (.reg [⟨(some 25), .mv (.t 1), none⟩,
      ⟨(some 26), .call 10 [(.t 25), (.c (.d (.v (.int .u32 4))))], none⟩,
      ⟨(some 24), .mv (.t 26), none⟩,
      ⟨(some 27), .ext (.t 24) 0, none⟩,
      ⟨(some 28), .ext (.t 24) 1, none⟩,
      ⟨(some 7), .mv (.t 27), none⟩,
      ⟨(some 8), .mv (.t 28), none⟩])
  (.seq (.reg [⟨(some 29), .mv (.t 2), none⟩,
      ⟨(some 30), .bin .eql (.t 29) (.c (.d (.v (.int .i64 0)))), none⟩,
      ⟨(some 31), .mv (.t 30), none⟩,
      ⟨(some 32), .mv (.t 1), (some (31, true))⟩,
      ⟨(some 33), .eqp true (.t 32) (.c .nilp), (some (31, true))⟩,
      ⟨(some 34), .pick (.t 31) (.t 33) (.c (.d (.v (.bool false)))), none⟩,
      ⟨(some 35), .mv (.t 34), none⟩,
      ⟨(some 36), .mv (.t 4), (some (35, true))⟩,
      ⟨(some 37), .pick (.t 35) (.t 36) (.c (.d (.v (.bool false)))), none⟩,
      ⟨(some 38), .mv (.t 37), none⟩,
      ⟨(some 39), .mv (.t 3), (some (38, true))⟩,
      ⟨(some 40), .bin .eql (.t 39) (.c (.d (.v (.int .u32 3)))), (some (38, true))⟩,
      ⟨(some 41), .pick (.t 38) (.t 40) (.c (.d (.v (.bool false)))), none⟩,
      ⟨(some 42), .mv (.t 41), none⟩,
      ⟨(some 43), .mv (.t 6), (some (42, true))⟩,
      ⟨(some 44), .un .not (.t 43), (some (42, true))⟩,
      ⟨(some 45), .pick (.t 42) (.t 44) (.c (.d (.v (.bool false)))), none⟩,
      ⟨(some 46), .mv (.t 45), none⟩,
      ⟨(some 47), .mv (.t 8), (some (46, true))⟩,
      ⟨(some 48), .un .not (.t 47), (some (46, true))⟩,
      ⟨(some 49), .pick (.t 46) (.t 48) (.c (.d (.v (.bool false)))), none⟩,
      ⟨(some 50), .mv (.t 49), none⟩,
      ⟨(some 51), .mv (.t 1), (some (50, true))⟩,
      ⟨(some 52), .call 16 [(.t 51)], (some (50, true))⟩,
      ⟨(some 53), .bin .eql (.t 52) (.c (.d (.v (.int .i64 1)))), (some (50, true))⟩,
      ⟨(some 54), .pick (.t 50) (.t 53) (.c (.d (.v (.bool false)))), none⟩,
      ⟨(some 0), .mv (.t 54), none⟩])
  (.ret))))))
def r7 : List RC := [.t 0]

/-- spinet/memory.New -/
def c8 : AC :=
  .seq (.reg [⟨(some 2), .mv (.c .nilp), none⟩,
      ⟨(some 3), .mv (.c (.d (.v (.int .i64 0)))), none⟩])
  (.seq (.seq (.reg [⟨(some 5), .mv (.t 0), none⟩,
       ⟨(some 6), .len false (.t 5), none⟩,
       ⟨(some 7), .bin .gtr (.t 6) (.c (.d (.v (.int .i64 65536)))), none⟩])
   (.cond (.t 7) (.seq (.reg [⟨(some 2), .mv (.c .nilp), none⟩,
        ⟨(some 3), .mv (.c (.d (.v (.int .i64 3)))), none⟩])
    (.ret)) (.skip)))
  (.seq (.reg [⟨(some 8), .mv (.t 0), none⟩,
      ⟨(some 9), .len false (.t 8), none⟩,
      ⟨(some 10), .mks .hp 23 1 4 [(.d (.v (.int .u32 0)))] (.t 9) (.t 9), none⟩,
      ⟨(some 11), .bd [.esl] [(0, 1, (.t 10))], none⟩,
      ⟨(some 12), .bx (.t 11), none⟩,
      ⟨(some 4), .mv (.t 12), none⟩])
  (.seq (.reg [⟨(some 13), .mv (.t 4), none⟩,
      ⟨(some 14), .nc (.t 13), none⟩,
      ⟨(some 15), .fa (.t 14) 0, none⟩,
      ⟨(some 16), .ld (.t 15) 1 false, none⟩,
      ⟨(some 17), .mv (.t 0), none⟩,
      ⟨(some 18), .cpy 1 (.t 16) (.t 17), none⟩])
  (.seq (.reg [⟨(some 19), .mv (.t 4), none⟩,
      ⟨(some 2), .mv (.t 19), none⟩,
      ⟨(some 3), .mv (.c (.d (.v (.int .i64 0)))), none⟩])
  (.ret)))))
def r8 : List RC := [.t 2, .t 3]

/-- (*spinet/memory.Memory).PutByte -/
def c9 : AC :=
  .seq (.reg [⟨(some 6), .mv (.c (.d (.v (.bool false)))), none⟩])
  (.seq (.reg [⟨(some 9), .mv (.t 0), none⟩,
      ⟨(some 10), .mv (.t 1), none⟩,
      ⟨(some 11), .call 25 [(.t 9), (.t 10)], none⟩,
      ⟨(some 7), .mv (.t 11), none⟩])
  (.seq (.seq (.reg [⟨(some 12), .mv (.t 7), none⟩,
       ⟨(some 13), .eqp false (.t 12) (.c .nilp), none⟩])
   (.cond (.t 13) (.seq (.reg [⟨(some 6), .mv (.c (.d (.v (.bool false)))), none⟩])
    (.ret)) (.skip)))
  (.seq (.reg [⟨(some 14), .mv (.t 1), none⟩,
      ⟨(some 15), .bin .rem (.t 14) (.c (.d (.v (.int .u32 4)))), none⟩,
      ⟨(some 16), .bin .mul (.c (.d (.v (.int .u32 8)))) (.t 15), none⟩,
      ⟨(some 8), .mv (.t 16), none⟩])
  (.seq (.reg [⟨(some 17), .mv (.t 7), none⟩,
      ⟨(some 18), .mv (.t 7), none⟩,
      ⟨(some 19), .nc (.t 18), none⟩,
      ⟨(some 20), .ld (.t 19) 1 false, none⟩,
      ⟨(some 21), .mv (.t 8), none⟩,
      ⟨(some 22), .bin .shl (.c (.d (.v (.int .u32 255)))) (.t 21), none⟩,
      ⟨(some 23), .bin .andNot (.t 20) (.t 22), none⟩,
      ⟨(some 24), .mv (.t 2), none⟩,
      ⟨(some 25), .cvi .u8 (.t 24), none⟩,
      ⟨(some 26), .cvi .u32 (.t 25), none⟩,
      ⟨(some 27), .mv (.t 8), none⟩,
      ⟨(some 28), .bin .shl (.t 26) (.t 27), none⟩,
      ⟨(some 29), .bin .or (.t 23) (.t 28), none⟩,
      ⟨(some 30), .nc (.t 17), none⟩,
      ⟨none, .st (.t 30) (.t 29) 1, none⟩])
  (.seq (.reg [⟨(some 6), .mv (.c (.d (.v (.bool true)))), none⟩])
  (.ret))))))
def r9 : List RC := [.t 6]

/-- (*spinet/memory.Memory).Load -/
def c10 : AC :=
  .seq (.reg [⟨(some 4), .mv (.c (.d (.v (.int .u32 0)))), none⟩,
      ⟨(some 5), .mv (.c (.d (.v (.bool false)))), none⟩])
  (.seq (.reg [⟨(some 7), .mv (.t 0), none⟩,
      ⟨(some 8), .mv (.t 1), none⟩,
      ⟨(some 9), .call 25 [(.t 7), (.t 8)], none⟩,
      ⟨(some 6), .mv (.t 9), none⟩])
  (.seq (.seq (.reg [⟨(some 10), .mv (.t 6), none⟩,
       ⟨(some 11), .eqp false (.t 10) (.c .nilp), none⟩,
       ⟨(some 12), .mv (.t 11), none⟩,
       ⟨(some 13), .mv (.t 1), (some (12, false))⟩,
       ⟨(some 14), .bin .rem (.t 13) (.c (.d (.v (.int .u32 4)))), (some (12, false))⟩,
       ⟨(some 15), .bin .neq (.t 14) (.c (.d (.v (.int .u32 0)))), (some (12, false))⟩,
       ⟨(some 16), .pick (.t 12) (.c (.d (.v (.bool true)))) (.t 15), none⟩])
   (.cond (.t 16) (.seq (.reg [⟨(some 4), .mv (.c (.d (.v (.int .u32 0)))), none⟩,
        ⟨(some 5), .mv (.c (.d (.v (.bool false)))), none⟩])
    (.ret)) (.skip)))
  (.seq (.reg [⟨(some 17), .mv (.t 6), none⟩,
      ⟨(some 18), .nc (.t 17), none⟩,
      ⟨(some 19), .ld (.t 18) 1 false, none⟩,
      ⟨(some 4), .mv (.t 19), none⟩,
      ⟨(some 5), .mv (.c (.d (.v (.bool true)))), none⟩])
  (.ret))))
def r10 : List RC := [.t 4, .t 5]

/-- (*spinet/memory.Memory).Byte -/
def c11 : AC :=
  .seq (.reg [⟨(some 4), .mv (.c (.d (.v (.int .u32 0)))), none⟩,
      ⟨(some 5), .mv (.c (.d (.v (.bool false)))), none⟩])
  (.seq (.reg [⟨(some 7), .mv (.t 0), none⟩,
      ⟨(some 8), .mv (.t 1), none⟩,
      ⟨(some 9), .call 25 [(.t 7), (.t 8)], none⟩,
      ⟨(some 6), .mv (.t 9), none⟩])
  (.seq (.seq (.reg [⟨(some 10), .mv (.t 6), none⟩,
       ⟨(some 11), .eqp false (.t 10) (.c .nilp), none⟩])
   (.cond (.t 11) (.seq (.reg [⟨(some 4), .mv (.c (.d (.v (.int .u32 0)))), none⟩,
        ⟨(some 5), .mv (.c (.d (.v (.bool false)))), none⟩])
    (.ret)) (.skip)))
  (.seq (.reg [⟨(some 12), .mv (.t 6), none⟩,
      ⟨(some 13), .nc (.t 12), none⟩,
      ⟨(some 14), .ld (.t 13) 1 false, none⟩,
      ⟨(some 15), .mv (.t 1), none⟩,
      ⟨(some 16), .bin .rem (.t 15) (.c (.d (.v (.int .u32 4)))), none⟩,
      ⟨(some 17), .bin .mul (.c (.d (.v (.int .u32 8)))) (.t 16), none⟩,
      ⟨(some 18), .bin .shr (.t 14) (.t 17), none⟩,
      ⟨(some 19), .cvi .u8 (.t 18), none⟩,
      ⟨(some 20), .cvi .u32 (.t 19), none⟩,
      ⟨(some 4), .mv (.t 20), none⟩,
      ⟨(some 5), .mv (.c (.d (.v (.bool true)))), none⟩])
  (.ret))))
def r11 : List RC := [.t 4, .t 5]

/-- (*spinet/memory.Memory).Fork -/
def c12 : AC :=
  .seq (.reg [⟨(some 2), .mv (.c .nilp), none⟩])
  (.seq (.seq (.reg [⟨(some 3), .mv (.t 0), none⟩,
       ⟨(some 4), .eqp false (.t 3) (.c .nilp), none⟩])
   (.cond (.t 4) (.seq (.reg [⟨(some 2), .mv (.c .nilp), none⟩])
    (.ret)) (.skip)))
  (.seq (.reg [⟨(some 5), .mv (.t 0), none⟩,
      ⟨(some 6), .nc (.t 5), none⟩,
      ⟨(some 7), .fa (.t 6) 0, none⟩,
      ⟨(some 8), .ld (.t 7) 1 false, none⟩,
      ⟨(some 9), .call 26 [(.t 8)], none⟩,
      ⟨(some 10), .bd [.esl] [(0, 1, (.t 9))], none⟩,
      ⟨(some 11), .bx (.t 10), none⟩,
      ⟨(some 2), .mv (.t 11), none⟩])
  (.ret)))
def r12 : List RC := [.t 2]

/-- (*spinet/memory.Memory).Store -/
def c13 : AC :=
  .seq (.reg [⟨(some 6), .mv (.c (.d (.v (.bool false)))), none⟩])
  (.seq (.reg [⟨(some 8), .mv (.t 0), none⟩,
      ⟨(some 9), .mv (.t 1), none⟩,
      ⟨(some 10), .call 25 [(.t 8), (.t 9)], none⟩,
      ⟨(some 7), .mv (.t 10), none⟩])
  (.seq (.seq (.reg [⟨(some 11), .mv (.t 7), none⟩,
       ⟨(some 12), .eqp false (.t 11) (.c .nilp), none⟩,
       ⟨(some 13), .mv (.t 12), none⟩,
       ⟨(some 14), .mv (.t 1), (some (13, false))⟩,
       ⟨(some 15), .bin .rem (.t 14) (.c (.d (.v (.int .u32 4)))), (some (13, false))⟩,
       ⟨(some 16), .bin .neq (.t 15) (.c (.d (.v (.int .u32 0)))), (some (13, false))⟩,
       ⟨(some 17), .pick (.t 13) (.c (.d (.v (.bool true)))) (.t 16), none⟩])
   (.cond (.t 17) (.seq (.reg [⟨(some 6), .mv (.c (.d (.v (.bool false)))), none⟩])
    (.ret)) (.skip)))
  (.seq (.reg [⟨(some 18), .mv (.t 7), none⟩,
      ⟨(some 19), .mv (.t 2), none⟩,
      ⟨(some 20), .nc (.t 18), none⟩,
      ⟨none, .st (.t 20) (.t 19) 1, none⟩])
  (.seq (.reg [⟨(some 6), .mv (.c (.d (.v (.bool true)))), none⟩])
  (.ret)))))
def r13 : List RC := [.t 6]

/-- (*spinet/memory.Memory).Words -/
def c14 : AC :=
  .seq (.reg [⟨(some 6), .mv (.c .esl), none⟩,
      ⟨(some 7), .mv (.c (.d (.v (.bool false)))), none⟩])
  (.seq (.seq (.reg [⟨(some 8), .mv (.t 1), none⟩,
       ⟨(some 9), .bin .lss (.t 8) (.c (.d (.v (.int .i64 0)))), none⟩,
       ⟨(some 10), .mv (.t 9), none⟩,
       ⟨(some 11), .mv (.t 2), (some (10, false))⟩,
       ⟨(some 12), .bin .lss (.t 11) (.c (.d (.v (.int .i64 0)))), (some (10, false))⟩,
       ⟨(some 13), .pick (.t 10) (.c (.d (.v (.bool true)))) (.t 12), none⟩,
       ⟨(some 14), .mv (.t 13), none⟩,
       ⟨(some 15), .mv (.t 1), (some (14, false))⟩,
       ⟨(some 16), .mv (.t 0), (some (14, false))⟩,
       ⟨(some 17), .call 16 [(.t 16)], (some (14, false))⟩,
       ⟨(some 18), .bin .gtr (.t 15) (.t 17), (some (14, false))⟩,
       ⟨(some 19), .pick (.t 14) (.c (.d (.v (.bool true)))) (.t 18), none⟩,
       ⟨(some 20), .mv (.t 19), none⟩,
       ⟨(some 21), .mv (.t 2), (some (20, false))⟩,
       ⟨(some 22), .mv (.t 0), (some (20, false))⟩,
       ⟨(some 23), .call 16 [(.t 22)], (some (20, false))⟩,
       ⟨(some 24), .mv (.t 1), (some (20, false))⟩,
       ⟨(some 25), .bin .sub (.t 23) (.t 24), (some (20, false))⟩,
       ⟨(some 26), .bin .gtr (.t 21) (.t 25), (some (20, false))⟩,
       ⟨(some 27), .pick (.t 20) (.c (.d (.v (.bool true)))) (.t 26), none⟩])
   (.cond (.t 27) (.seq (.reg [⟨(some 6), .mv (.c .esl), none⟩,
        ⟨(some 7), .mv (.c (.d (.v (.bool false)))), none⟩])
    (.ret)) (.skip)))
  (.seq (.seq (.reg [⟨(some 28), .mv (.t 2), none⟩,
       ⟨(some 29), .bin .eql (.t 28) (.c (.d (.v (.int .i64 0)))), none⟩])
   (.cond (.t 29) (.seq (.reg [⟨(some 6), .mv (.c .esl), none⟩,
        ⟨(some 7), .mv (.c (.d (.v (.bool true)))), none⟩])
    (.ret)) (.skip)))
  (.seq (.reg [⟨(some 30), .mv (.t 0), none⟩,
      ⟨(some 31), .nc (.t 30), none⟩,
      ⟨(some 32), .fa (.t 31) 0, none⟩,
      ⟨(some 33), .ld (.t 32) 1 false, none⟩,
      ⟨(some 34), .mv (.t 1), none⟩,
      ⟨(some 35), .mv (.t 1), none⟩,
      ⟨(some 36), .mv (.t 2), none⟩,
      ⟨(some 37), .bin .add (.t 35) (.t 36), none⟩,
      ⟨(some 38), .sli false (.t 33) (some (.t 34)) (some (.t 37)) 1, none⟩,
      ⟨(some 39), .call 26 [(.t 38)], none⟩,
      ⟨(some 6), .mv (.t 39), none⟩,
      ⟨(some 7), .mv (.c (.d (.v (.bool true)))), none⟩])
  (.ret))))
def r14 : List RC := [.t 6, .t 7]

/-- spinet/spinetref04.New -/
def c15 : AC :=
  .seq (.reg [⟨(some 2), .mv (.c .nilp), none⟩,
      ⟨(some 3), .mv (.c (.d (.v (.int .i64 0)))), none⟩])
  (.seq (.seq (.reg [⟨(some 4), .mv (.t 0), none⟩,
       ⟨(some 5), .len false (.t 4), none⟩,
       ⟨(some 6), .bin .gtr (.t 5) (.c (.d (.v (.int .i64 65536)))), none⟩])
   (.cond (.t 6) (.seq (.reg [⟨(some 2), .mv (.c .nilp), none⟩,
        ⟨(some 3), .mv (.c (.d (.v (.int .i64 3)))), none⟩])
    (.ret)) (.skip)))
  (.seq (.reg [⟨(some 7), .bs .hp 23 1 [], none⟩,
      ⟨(some 8), .mv (.t 0), none⟩,
      ⟨(some 9), .app .hp 23 1 4 (.t 7) (.t 8), none⟩,
      ⟨(some 10), .bd [.esl] [(0, 1, (.t 9))], none⟩,
      ⟨(some 11), .bx (.t 10), none⟩,
      ⟨(some 2), .mv (.t 11), none⟩,
      ⟨(some 3), .mv (.c (.d (.v (.int .i64 0)))), none⟩])
  (.ret)))
def r15 : List RC := [.t 2, .t 3]

/-- (*spinet/memory.Memory).Size -/
def c16 : AC :=
  .seq (.reg [⟨(some 2), .mv (.c (.d (.v (.int .i64 0)))), none⟩])
  (.seq (.seq (.reg [⟨(some 3), .mv (.t 0), none⟩,
       ⟨(some 4), .eqp false (.t 3) (.c .nilp), none⟩])
   (.cond (.t 4) (.seq (.reg [⟨(some 2), .mv (.c (.d (.v (.int .i64 0)))), none⟩])
    (.ret)) (.skip)))
  (.seq (.reg [⟨(some 5), .mv (.t 0), none⟩,
      ⟨(some 6), .nc (.t 5), none⟩,
      ⟨(some 7), .fa (.t 6) 0, none⟩,
      ⟨(some 8), .ld (.t 7) 1 false, none⟩,
      ⟨(some 9), .len false (.t 8), none⟩,
      ⟨(some 2), .mv (.t 9), none⟩])
  (.ret)))
def r16 : List RC := [.t 2]

/-- (*spinet/spinetref04.Memory).Size -/
def c17 : AC :=
  .seq (.reg [⟨(some 2), .mv (.c (.d (.v (.int .i64 0)))), none⟩])
  (.seq (.seq (.reg [⟨(some 3), .mv (.t 0), none⟩,
       ⟨(some 4), .eqp false (.t 3) (.c .nilp), none⟩])
   (.cond (.t 4) (.seq (.reg [⟨(some 2), .mv (.c (.d (.v (.int .i64 0)))), none⟩])
    (.ret)) (.skip)))
  (.seq (.reg [⟨(some 5), .mv (.t 0), none⟩,
      ⟨(some 6), .nc (.t 5), none⟩,
      ⟨(some 7), .fa (.t 6) 0, none⟩,
      ⟨(some 8), .ld (.t 7) 1 false, none⟩,
      ⟨(some 9), .len false (.t 8), none⟩,
      ⟨(some 2), .mv (.t 9), none⟩])
  (.ret)))
def r17 : List RC := [.t 2]

def c18l0 : AC :=
  .seq (.seq (.reg [⟨(some 11), .mv (.t 5), none⟩,
          ⟨(some 12), .mv (.t 0), none⟩,
          ⟨(some 13), .len false (.t 12), none⟩,
          ⟨(some 14), .bin .lss (.t 11) (.t 13), none⟩])
      (.cond (.t 14) (.skip) (.exit 0)))
     (.seq (.block 1 (.seq (.dreg [[], [], [0, 1], [2], [], [], [4, 5], [6], [3, 7]] [⟨(some 17), .mv (.t 0), none⟩,
           ⟨(some 18), .mv (.t 5), none⟩,
           ⟨(some 19), .ia (.t 17) (.t 18) 1, none⟩,
           ⟨(some 20), .ld (.t 19) 1 false, none⟩,
           ⟨(some 21), .mv (.t 1), none⟩,
           ⟨(some 22), .mv (.t 5), none⟩,
           ⟨(some 23), .ia (.t 21) (.t 22) 1, none⟩,
           ⟨(some 24), .ld (.t 23) 1 false, none⟩,
           ⟨(some 25), .bin .neq (.t 20) (.t 24), none⟩])
       (.cond (.t 25) (.seq (.reg [⟨(some 4), .mv (.c (.d (.v (.bool false)))), none⟩])
        (.ret)) (.skip))))
     (.reg [⟨(some 15), .mv (.t 5), none⟩,
        ⟨(some 16), .bin .add (.t 15) (.c (.d (.v (.int .i64 1)))), none⟩,
        ⟨(some 5), .mv (.t 16), none⟩]))

/-- spinet/spinetkeep.Words -/
def c18 : AC :=
  .seq (.reg [⟨(some 4), .mv (.c (.d (.v (.bool false)))), none⟩])
  (.seq (.seq (.reg [⟨(some 6), .mv (.t 0), none⟩,
       ⟨(some 7), .len false (.t 6), none⟩,
       ⟨(some 8), .mv (.t 1), none⟩,
       ⟨(some 9), .len false (.t 8), none⟩,
       ⟨(some 10), .bin .neq (.t 7) (.t 9), none⟩])
   (.cond (.t 10) (.seq (.reg [⟨(some 4), .mv (.c (.d (.v (.bool false)))), none⟩])
    (.ret)) (.skip)))
  (.seq (.seq (.reg [⟨(some 5), .mv (.c (.d (.v (.int .i64 0)))), none⟩])
   (.block 0 (.loop c18l0)))
  (.seq (.reg [⟨(some 4), .mv (.c (.d (.v (.bool true)))), none⟩])
  (.ret))))
def r18 : List RC := [.t 4]

/-- (*spinet/spinetref04.Memory).Load -/
def c19 : AC :=
  .seq (.reg [⟨(some 4), .mv (.c (.d (.v (.int .u32 0)))), none⟩,
      ⟨(some 5), .mv (.c (.d (.v (.bool false)))), none⟩])
  (.seq (.seq (.reg [⟨(some 6), .mv (.t 1), none⟩,
       ⟨(some 7), .bin .rem (.t 6) (.c (.d (.v (.int .u32 4)))), none⟩,
       ⟨(some 8), .bin .neq (.t 7) (.c (.d (.v (.int .u32 0)))), none⟩,
       ⟨(some 9), .mv (.t 8), none⟩,
       ⟨(some 10), .mv (.t 0), (some (9, false))⟩,
       ⟨(some 11), .mv (.t 1), (some (9, false))⟩,
       ⟨(some 12), .call 27 [(.t 10), (.t 11)], (some (9, false))⟩,
       ⟨(some 13), .un .not (.t 12), (some (9, false))⟩,
       ⟨(some 14), .pick (.t 9) (.c (.d (.v (.bool true)))) (.t 13), none⟩])
   (.cond (.t 14) (.seq (.reg [⟨(some 4), .mv (.c (.d (.v (.int .u32 0)))), none⟩,
        ⟨(some 5), .mv (.c (.d (.v (.bool false)))), none⟩])
    (.ret)) (.skip)))
  (.seq (.reg [⟨(some 15), .mv (.t 0), none⟩,
      ⟨(some 16), .nc (.t 15), none⟩,
      ⟨(some 17), .fa (.t 16) 0, none⟩,
      ⟨(some 18), .ld (.t 17) 1 false, none⟩,
      ⟨(some 19), .mv (.t 1), none⟩,
      ⟨(some 20), .bin .quo (.t 19) (.c (.d (.v (.int .u32 4)))), none⟩,
      ⟨(some 21), .ia (.t 18) (.t 20) 1, none⟩,
      ⟨(some 22), .ld (.t 21) 1 false, none⟩,
      ⟨(some 4), .mv (.t 22), none⟩,
      ⟨(some 5), .mv (.c (.d (.v (.bool true)))), none⟩])
  (.ret)))
def r19 : List RC := [.t 4, .t 5]

/-- (*spinet/spinetref04.Memory).Store -/
def c20 : AC :=
  .seq (.reg [⟨(some 6), .mv (.c (.d (.v (.bool false)))), none⟩])
  (.seq (.seq (.reg [⟨(some 7), .mv (.t 1), none⟩,
       ⟨(some 8), .bin .rem (.t 7) (.c (.d (.v (.int .u32 4)))), none⟩,
       ⟨(some 9), .bin .neq (.t 8) (.c (.d (.v (.int .u32 0)))), none⟩,
       ⟨(some 10), .mv (.t 9), none⟩,
       ⟨(some 11), .mv (.t 0), (some (10, false))⟩,
       ⟨(some 12), .mv (.t 1), (some (10, false))⟩,
       ⟨(some 13), .call 27 [(.t 11), (.t 12)], (some (10, false))⟩,
       ⟨(some 14), .un .not (.t 13), (some (10, false))⟩,
       ⟨(some 15), .pick (.t 10) (.c (.d (.v (.bool true)))) (.t 14), none⟩])
   (.cond (.t 15) (.seq (.reg [⟨(some 6), .mv (.c (.d (.v (.bool false)))), none⟩])
    (.ret)) (.skip)))
  (.seq (.reg [⟨(some 16), .mv (.t 0), none⟩,
      ⟨(some 17), .nc (.t 16), none⟩,
      ⟨(some 18), .fa (.t 17) 0, none⟩,
      ⟨(some 19), .ld (.t 18) 1 false, none⟩,
      ⟨(some 20), .mv (.t 1), none⟩,
      ⟨(some 21), .bin .quo (.t 20) (.c (.d (.v (.int .u32 4)))), none⟩,
      ⟨(some 22), .mv (.t 2), none⟩,
      ⟨(some 23), .ia (.t 19) (.t 21) 1, none⟩,
      ⟨none, .st (.t 23) (.t 22) 1, none⟩])
  (.seq (.reg [⟨(some 6), .mv (.c (.d (.v (.bool true)))), none⟩])
  (.ret))))
def r20 : List RC := [.t 6]

/-- (*spinet/spinetref04.Memory).Byte -/
def c21 : AC :=
  .seq (.reg [⟨(some 4), .mv (.c (.d (.v (.int .u32 0)))), none⟩,
      ⟨(some 5), .mv (.c (.d (.v (.bool false)))), none⟩])
  (.seq (.seq (.reg [⟨(some 6), .mv (.t 0), none⟩,
       ⟨(some 7), .mv (.t 1), none⟩,
       ⟨(some 8), .call 27 [(.t 6), (.t 7)], none⟩,
       ⟨(some 9), .un .not (.t 8), none⟩])
   (.cond (.t 9) (.seq (.reg [⟨(some 4), .mv (.c (.d (.v (.int .u32 0)))), none⟩,
        ⟨(some 5), .mv (.c (.d (.v (.bool false)))), none⟩])
    (.ret)) (.skip)))
  (.seq (.dreg [[], [0], [1], [2], [], [4], [3, 5], [6], [], [8], [7, 9], [10], [11, 9, 0, 1, 2, 3, 4, 5, 6, 7, 8, 9, 10, 11], [12, 0, 1, 2, 3, 4, 5, 6, 7, 8, 9, 10, 11, 12]] [⟨(some 10), .mv (.t 0), none⟩,
      ⟨(some 11), .nc (.t 10), none⟩,
      ⟨(some 12), .fa (.t 11) 0, none⟩,
      ⟨(some 13), .ld (.t 12) 1 false, none⟩,
      ⟨(some 14), .mv (.t 1), none⟩,
      ⟨(some 15), .bin .quo (.t 14) (.c (.d (.v (.int .u32 4)))), none⟩,
      ⟨(some 16), .ia (.t 13) (.t 15) 1, none⟩,
      ⟨(some 17), .ld (.t 16) 1 false, none⟩,
      ⟨(some 18), .mv (.t 1), none⟩,
      ⟨(some 19), .call 28 [(.t 18)], none⟩,
      ⟨(some 20), .bin .quo (.t 17) (.t 19), none⟩,
      ⟨(some 21), .bin .rem (.t 20) (.c (.d (.v (.int .u32 256)))), none⟩,
      ⟨(some 4), .mv (.t 21), none⟩,
      ⟨(some 5), .mv (.c (.d (.v (.bool true)))), none⟩])
  (.ret)))
def r21 : List RC := [.t 4, .t 5]

/-- (*spinet/spinetref04.Memory).PutByte -/
def c22 : AC :=
  .seq (.reg [⟨(some 6), .mv (.c (.d (.v (.bool false)))), none⟩])
  (.seq (.seq (.reg [⟨(some 9), .mv (.t 0), none⟩,
       ⟨(some 10), .mv (.t 1), none⟩,
       ⟨(some 11), .call 27 [(.t 9), (.t 10)], none⟩,
       ⟨(some 12), .un .not (.t 11), none⟩])
   (.cond (.t 12) (.seq (.reg [⟨(some 6), .mv (.c (.d (.v (.bool false)))), none⟩])
    (.ret)) (.skip)))
  (.seq (.reg [⟨(some 14), .mv (.t 0), none⟩,
      ⟨(some 15), .mv (.t 1), none⟩,
      ⟨(some 16), .call 21 [(.t 14), (.t 15)], none⟩,
      ⟨(some 13), .mv (.t 16), none⟩,
      ⟨(some 17), .ext (.t 13) 0, none⟩,
      ⟨(some 18), .ext (.t 13) 1, none⟩,
      ⟨(some 7), .mv (.t 17), none⟩,
      ⟨(some 8), .mv (.t 18), none⟩])
  (.seq (.dreg [[], [0], [1], [2], [], [4], [], [6], [7], [8], [], [10], [9, 11], [12], [], [], [15], [14, 16], [13, 17], [], [19], [], [21, 16], [20, 22], [18, 23], [3, 5, 0, 1, 2, 3, 4, 5, 6, 7, 8, 9, 10, 11, 12, 13, 14, 15, 16, 17, 18, 19, 20, 21, 22, 23, 24], [25, 24, 22, 0, 1, 2, 3, 4, 5, 6, 7, 8, 9, 10, 11, 12, 13, 14, 15, 16, 17, 18, 19, 20, 21, 22, 23, 24]] [⟨(some 19), .mv (.t 0), none⟩,
      ⟨(some 20), .nc (.t 19), none⟩,
      ⟨(some 21), .fa (.t 20) 0, none⟩,
      ⟨(some 22), .ld (.t 21) 1 false, none⟩,
      ⟨(some 23), .mv (.t 1), none⟩,
      ⟨(some 24), .bin .quo (.t 23) (.c (.d (.v (.int .u32 4)))), none⟩,
      ⟨(some 25), .mv (.t 0), none⟩,
      ⟨(some 26), .nc (.t 25), none⟩,
      ⟨(some 27), .fa (.t 26) 0, none⟩,
      ⟨(some 28), .ld (.t 27) 1 false, none⟩,
      ⟨(some 29), .mv (.t 1), none⟩,
      ⟨(some 30), .bin .quo (.t 29) (.c (.d (.v (.int .u32 4)))), none⟩,
      ⟨(some 31), .ia (.t 28) (.t 30) 1, none⟩,
      ⟨(some 32), .ld (.t 31) 1 false, none⟩,
      ⟨(some 33), .mv (.t 7), none⟩,
      ⟨(some 34), .mv (.t 1), none⟩,
      ⟨(some 35), .call 28 [(.t 34)], none⟩,
      ⟨(some 36), .bin .mul (.t 33) (.t 35), none⟩,
      ⟨(some 37), .bin .sub (.t 32) (.t 36), none⟩,
      ⟨(some 38), .mv (.t 2), none⟩,
      ⟨(some 39), .bin .rem (.t 38) (.c (.d (.v (.int .u32 256)))), none⟩,
      ⟨(some 40), .mv (.t 1), none⟩,
      ⟨(some 41), .call 28 [(.t 40)], none⟩,
      ⟨(some 42), .bin .mul (.t 39) (.t 41), none⟩,
      ⟨(some 43), .bin .add (.t 37) (.t 42), none⟩,
      ⟨(some 44), .ia (.t 22) (.t 24) 1, none⟩,
      ⟨none, .st (.t 44) (.t 43) 1, none⟩])
  (.seq (.reg [⟨(some 6), .mv (.c (.d (.v (.bool true)))), none⟩])
  (.ret)))))
def r22 : List RC := [.t 6]

def c23l0 : AC :=
  .seq (.seq (.reg [⟨(some 30), .mv (.t 9), none⟩,
          ⟨(some 31), .mv (.t 2), none⟩,
          ⟨(some 32), .bin .lss (.t 30) (.t 31), none⟩])
      (.cond (.t 32) (.skip) (.exit 0)))
     (.seq (.block 1 (.reg [⟨(some 35), .mv (.t 8), none⟩,
          ⟨(some 36), .mv (.t 0), none⟩,
          ⟨(some 37), .nc (.t 36), none⟩,
          ⟨(some 38), .fa (.t 37) 0, none⟩,
          ⟨(some 39), .ld (.t 38) 1 false, none⟩,
          ⟨(some 40), .mv (.t 1), none⟩,
          ⟨(some 41), .mv (.t 9), none⟩,
          ⟨(some 42), .bin .add (.t 40) (.t 41), none⟩,
          ⟨(some 43), .ia (.t 39) (.t 42) 1, none⟩,
          ⟨(some 44), .ld (.t 43) 1 false, none⟩,
          ⟨(some 45), .bs .im 23 1 [(.t 44)], none⟩,
          ⟨(some 46), .app .gr 23 1 4 (.t 35) (.t 45), none⟩,
          ⟨(some 8), .mvg 23 1 (.t 46), none⟩]))
     (.reg [⟨(some 33), .mv (.t 9), none⟩,
        ⟨(some 34), .bin .add (.t 33) (.c (.d (.v (.int .i64 1)))), none⟩,
        ⟨(some 9), .mv (.t 34), none⟩]))

/-- (*spinet/spinetref04.Memory).Words -/
def c23 : AC :=
  .seq (.reg [⟨(some 6), .mv (.c .esl), none⟩,
      ⟨(some 7), .mv (.c (.d (.v (.bool false)))), none⟩])
  (.seq (.seq (.reg [⟨(some 10), .mv (.t 1), none⟩,
       ⟨(some 11), .bin .lss (.t 10) (.c (.d (.v (.int .i64 0)))), none⟩,
       ⟨(some 12), .mv (.t 11), none⟩,
       ⟨(some 13), .mv (.t 2), (some (12, false))⟩,
       ⟨(some 14), .bin .lss (.t 13) (.c (.d (.v (.int .i64 0)))), (some (12, false))⟩,
       ⟨(some 15), .pick (.t 12) (.c (.d (.v (.bool true)))) (.t 14), none⟩,
       ⟨(some 16), .mv (.t 15), none⟩,
       ⟨(some 17), .mv (.t 1), (some (16, false))⟩,
       ⟨(some 18), .mv (.t 0), (some (16, false))⟩,
       ⟨(some 19), .call 17 [(.t 18)], (some (16, false))⟩,
       ⟨(some 20), .bin .gtr (.t 17) (.t 19), (some (16, false))⟩,
       ⟨(some 21), .pick (.t 16) (.c (.d (.v (.bool true)))) (.t 20), none⟩,
       ⟨(some 22), .mv (.t 21), none⟩,
       ⟨(some 23), .mv (.t 2), (some (22, false))⟩,
       ⟨(some 24), .mv (.t 0), (some (22, false))⟩,
       ⟨(some 25), .call 17 [(.t 24)], (some (22, false))⟩,
       ⟨(some 26), .mv (.t 1), (some (22, false))⟩,
       ⟨(some 27), .bin .sub (.t 25) (.t 26), (some (22, false))⟩,
       ⟨(some 28), .bin .gtr (.t 23) (.t 27), (some (22, false))⟩,
       ⟨(some 29), .pick (.t 22) (.c (.d (.v (.bool true)))) (.t 28), none⟩])
   (.cond (.t 29) (.seq (.reg [⟨(some 6), .mv (.c .esl), none⟩,
        ⟨(some 7), .mv (.c (.d (.v (.bool false)))), none⟩])
    (.ret)) (.skip)))
  (.seq (.reg [⟨(some 8), .mvg 23 1 (.c .esl), none⟩])
  (.seq (.seq (.reg [⟨(some 9), .mv (.c (.d (.v (.int .i64 0)))), none⟩])
   (.block 0 (.loop c23l0)))
  (.seq (.reg [⟨(some 47), .mv (.t 8), none⟩,
      ⟨(some 6), .mv (.t 47), none⟩,
      ⟨(some 7), .mv (.c (.d (.v (.bool true)))), none⟩])
  (.ret)))))
def r23 : List RC := [.t 6, .t 7]

/-- (*spinet/spinetref04.Memory).Fork -/
def c24 : AC :=
  .seq (.reg [⟨(some 2), .mv (.c .nilp), none⟩])
  (.seq (.seq (.reg [⟨(some 3), .mv (.t 0), none⟩,
       ⟨(some 4), .eqp false (.t 3) (.c .nilp), none⟩])
   (.cond (.t 4) (.seq (.reg [⟨(some 2), .mv (.c .nilp), none⟩])
    (.ret)) (.skip)))
  (.seq (.reg [⟨(some 5), .bs .hp 23 1 [], none⟩,
      ⟨(some 6), .mv (.t 0), none⟩,
      ⟨(some 7), .nc (.t 6), none⟩,
      ⟨(some 8), .fa (.t 7) 0, none⟩,
      ⟨(some 9), .ld (.t 8) 1 false, none⟩,
      ⟨(some 10), .app .hp 23 1 4 (.t 5) (.t 9), none⟩,
      ⟨(some 11), .bd [.esl] [(0, 1, (.t 10))], none⟩,
      ⟨(some 12), .bx (.t 11), none⟩,
      ⟨(some 2), .mv (.t 12), none⟩])
  (.ret)))
def r24 : List RC := [.t 2]

/-- (*spinet/memory.Memory).word -/
def c25 : AC :=
  .seq (.reg [⟨(some 4), .mv (.c .nilp), none⟩])
  (.seq (.seq (.reg [⟨(some 5), .mv (.t 1), none⟩,
       ⟨(some 6), .bin .shr (.t 5) (.c (.d (.v (.int .u64 2)))), none⟩,
       ⟨(some 7), .cvi .i64 (.t 6), none⟩,
       ⟨(some 8), .mv (.t 0), none⟩,
       ⟨(some 9), .call 16 [(.t 8)], none⟩,
       ⟨(some 10), .bin .geq (.t 7) (.t 9), none⟩])
   (.cond (.t 10) (.seq (.reg [⟨(some 4), .mv (.c .nilp), none⟩])
    (.ret)) (.skip)))
  (.seq (.reg [⟨(some 11), .mv (.t 0), none⟩,
      ⟨(some 12), .nc (.t 11), none⟩,
      ⟨(some 13), .fa (.t 12) 0, none⟩,
      ⟨(some 14), .ld (.t 13) 1 false, none⟩,
      ⟨(some 15), .mv (.t 1), none⟩,
      ⟨(some 16), .bin .shr (.t 15) (.c (.d (.v (.int .u64 2)))), none⟩,
      ⟨(some 17), .ia (.t 14) (.t 16) 1, none⟩,
      ⟨(some 4), .mv (.t 17), none⟩])
  (.ret)))
def r25 : List RC := [.t 4]

/-- slices.Clone[[]uint32,uint32] -/
def c26 : AC :=
  .seq (.reg [⟨(some 2), .mv (.c .esl), none⟩])
  (.seq (.seq (.reg [⟨(some 3), .mv (.t 0), none⟩,
       ⟨(some 4), .isn false false (.t 3), none⟩])
   (.cond (.t 4) (.seq (.reg [⟨(some 2), .mv (.c .esl), none⟩])
    (.ret)) (.skip)))
  (.seq (.reg [⟨(some 5), .bs .hp 23 1 [], none⟩,
      ⟨(some 6), .mv (.t 0), none⟩,
      ⟨(some 7), .app .hp 23 1 4 (.t 5) (.t 6), none⟩,
      ⟨(some 2), .mv (.t 7), none⟩])
  (.ret)))
def r26 : List RC := [.t 2]

/-- (*spinet/spinetref04.Memory).there -/
def c27 : AC :=
  .seq (.reg [⟨(some 4), .mv (.c (.d (.v (.bool false)))), none⟩])
  (.seq (.reg [⟨(some 5), .mv (.t 1), none⟩,
      ⟨(some 6), .bin .quo (.t 5) (.c (.d (.v (.int .u32 4)))), none⟩,
      ⟨(some 7), .cvi .i64 (.t 6), none⟩,
      ⟨(some 8), .mv (.t 0), none⟩,
      ⟨(some 9), .call 17 [(.t 8)], none⟩,
      ⟨(some 10), .bin .lss (.t 7) (.t 9), none⟩,
      ⟨(some 4), .mv (.t 10), none⟩])
  (.ret))
def r27 : List RC := [.t 4]

def c28l0 : AC :=
  .seq (.seq (.reg [⟨(some 5), .mv (.t 4), none⟩,
          ⟨(some 6), .mv (.t 0), none⟩,
          ⟨(some 7), .bin .rem (.t 6) (.c (.d (.v (.int .u32 4)))), none⟩,
          ⟨(some 8), .bin .lss (.t 5) (.t 7), none⟩])
      (.cond (.t 8) (.skip) (.exit 0)))
     (.seq (.block 1 (.reg [⟨(some 11), .mv (.t 3), none⟩,
          ⟨(some 12), .bin .mul (.t 11) (.c (.d (.v (.int .u32 256)))), none⟩,
          ⟨(some 3), .mv (.t 12), none⟩]))
     (.reg [⟨(some 9), .mv (.t 4), none⟩,
        ⟨(some 10), .bin .add (.t 9) (.c (.d (.v (.int .u32 1)))), none⟩,
        ⟨(some 4), .mv (.t 10), none⟩]))

/-- spinet/spinetref04.scale -/
def c28 : AC :=
  .seq (.reg [⟨(some 2), .mv (.c (.d (.v (.int .u32 0)))), none⟩])
  (.seq (.reg [⟨(some 3), .mv (.c (.d (.v (.int .u32 1)))), none⟩])
  (.seq (.seq (.reg [⟨(some 4), .mv (.c (.d (.v (.int .u32 0)))), none⟩])
   (.block 0 (.loop c28l0)))
  (.seq (.reg [⟨(some 13), .mv (.t 3), none⟩,
      ⟨(some 2), .mv (.t 13), none⟩])
  (.ret))))
def r28 : List RC := [.t 2]

theorem cc3 : Try.f3.body.bind (comp Try.prog (hh 3)) = some c3 := by kernel_rfl
theorem rr3 : resC Try.prog Try.f3 = some r3 := by kernel_rfl
theorem cc4 : Try.f4.body.bind (comp Try.prog (hh 4)) = some c4 := by kernel_rfl
theorem rr4 : resC Try.prog Try.f4 = some r4 := by kernel_rfl
theorem cc5 : Try.f5.body.bind (comp Try.prog (hh 5)) = some c5 := by kernel_rfl
theorem rr5 : resC Try.prog Try.f5 = some r5 := by kernel_rfl
theorem cc6 : Try.f6.body.bind (comp Try.prog (hh 6)) = some c6 := by kernel_rfl
theorem rr6 : resC Try.prog Try.f6 = some r6 := by kernel_rfl
theorem cc7 : Try.f7.body.bind (comp Try.prog (hh 7)) = some c7 := by kernel_rfl
theorem rr7 : resC Try.prog Try.f7 = some r7 := by kernel_rfl
theorem cc8 : Try.f8.body.bind (comp Try.prog (hh 8)) = some c8 := by kernel_rfl
theorem rr8 : resC Try.prog Try.f8 = some r8 := by kernel_rfl
theorem cc9 : Try.f9.body.bind (comp Try.prog (hh 9)) = some c9 := by kernel_rfl
theorem rr9 : resC Try.prog Try.f9 = some r9 := by kernel_rfl
theorem cc10 : Try.f10.body.bind (comp Try.prog (hh 10)) = some c10 := by kernel_rfl
theorem rr10 : resC Try.prog Try.f10 = some r10 := by kernel_rfl
theorem cc11 : Try.f11.body.bind (comp Try.prog (hh 11)) = some c11 := by kernel_rfl
theorem rr11 : resC Try.prog Try.f11 = some r11 := by kernel_rfl
theorem cc12 : Try.f12.body.bind (comp Try.prog (hh 12)) = some c12 := by kernel_rfl
theorem rr12 : resC Try.prog Try.f12 = some r12 := by kernel_rfl
theorem cc13 : Try.f13.body.bind (comp Try.prog (hh 13)) = some c13 := by kernel_rfl
theorem rr13 : resC Try.prog Try.f13 = some r13 := by kernel_rfl
theorem cc14 : Try.f14.body.bind (comp Try.prog (hh 14)) = some c14 := by kernel_rfl
theorem rr14 : resC Try.prog Try.f14 = some r14 := by kernel_rfl
theorem cc15 : Try.f15.body.bind (comp Try.prog (hh 15)) = some c15 := by kernel_rfl
theorem rr15 : resC Try.prog Try.f15 = some r15 := by kernel_rfl
theorem cc16 : Try.f16.body.bind (comp Try.prog (hh 16)) = some c16 := by kernel_rfl
theorem rr16 : resC Try.prog Try.f16 = some r16 := by kernel_rfl
theorem cc17 : Try.f17.body.bind (comp Try.prog (hh 17)) = some c17 := by kernel_rfl
theorem rr17 : resC Try.prog Try.f17 = some r17 := by kernel_rfl
theorem cc18 : Try.f18.body.bind (comp Try.prog (hh 18)) = some c18 := by kernel_rfl
theorem rr18 : resC Try.prog Try.f18 = some r18 := by kernel_rfl
theorem cc19 : Try.f19.body.bind (comp Try.prog (hh 19)) = some c19 := by kernel_rfl
theorem rr19 : resC Try.prog Try.f19 = some r19 := by kernel_rfl
theorem cc20 : Try.f20.body.bind (comp Try.prog (hh 20)) = some c20 := by kernel_rfl
theorem rr20 : resC Try.prog Try.f20 = some r20 := by kernel_rfl
theorem cc21 : Try.f21.body.bind (comp Try.prog (hh 21)) = some c21 := by kernel_rfl
theorem rr21 : resC Try.prog Try.f21 = some r21 := by kernel_rfl
theorem cc22 : Try.f22.body.bind (comp Try.prog (hh 22)) = some c22 := by kernel_rfl
theorem rr22 : resC Try.prog Try.f22 = some r22 := by kernel_rfl
theorem cc23 : Try.f23.body.bind (comp Try.prog (hh 23)) = some c23 := by kernel_rfl
theorem rr23 : resC Try.prog Try.f23 = some r23 := by kernel_rfl
theorem cc24 : Try.f24.body.bind (comp Try.prog (hh 24)) = some c24 := by kernel_rfl
theorem rr24 : resC Try.prog Try.f24 = some r24 := by kernel_rfl
theorem cc25 : Try.f25.body.bind (comp Try.prog (hh 25)) = some c25 := by kernel_rfl
theorem rr25 : resC Try.prog Try.f25 = some r25 := by kernel_rfl
theorem cc26 : Try.f26.body.bind (comp Try.prog (hh 26)) = some c26 := by kernel_rfl
theorem rr26 : resC Try.prog Try.f26 = some r26 := by kernel_rfl
theorem cc27 : Try.f27.body.bind (comp Try.prog (hh 27)) = some c27 := by kernel_rfl
theorem rr27 : resC Try.prog Try.f27 = some r27 := by kernel_rfl
theorem cc28 : Try.f28.body.bind (comp Try.prog (hh 28)) = some c28 := by kernel_rfl
theorem rr28 : resC Try.prog Try.f28 = some r28 := by kernel_rfl
end Go.Proofs.Ytdfhmhgelkelcaa
