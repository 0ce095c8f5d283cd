/- The functions' code in the small language. Printed by program (wip/tools). -/
import Derived.Test.YtpajelfgipdmhaaWalk2
import Derived.Test.YtpajelfgipdmhaaProg
import Derived.KernelRfl
namespace Go.Proofs.Ytpajelfgipdmhaa
open Go.RowKit
def hh : Nat → Nat → Option Md := fun fn slot => if fn = 8 ∧ slot = 3 then some .gr else none

/-- spinet/spinetlaw19.NeedTells -/
def c3 : AC :=
  .seq (.reg [⟨(some 1), .bx (.t 0), none⟩,
      ⟨(some 2), .mv (.c (.d (.v (.bool false)))), none⟩])
  (.seq (.seq (.reg [⟨(some 4), .ld (.t 1) 6 true, none⟩,
       ⟨(some 5), .call 6 [(.t 4)], none⟩])
   (.cond (.t 5) (.seq (.reg [⟨(some 6), .call 7 [], none⟩,
        ⟨(some 2), .mv (.t 6), none⟩])
    (.ret)) (.skip)))
  (.seq (.reg [⟨(some 7), .ld (.t 1) 6 true, none⟩,
      ⟨(some 8), .bs .im 24 6 [(.t 7)], none⟩,
      ⟨(some 9), .call 8 [(.t 8)], none⟩,
      ⟨(some 3), .mv (.t 9), none⟩])
  (.seq (.dreg [[], [0], [1], [2], [], [4, 3], [3, 5], [6, 5], [7], [7], [9, 7], [8, 10, 7, 7], [7, 11], [12, 11], [13, 13], [13, 14], [15, 14, 0, 1, 2, 3, 4, 5, 6, 7, 8, 9, 10, 11, 12, 13, 14, 15]] [⟨(some 10), .mv (.t 3), none⟩,
      ⟨(some 11), .ia (.t 10) (.c (.d (.v (.int .i64 0)))) 6, none⟩,
      ⟨(some 12), .ld (.t 11) 6 true, none⟩,
      ⟨(some 13), .call 9 [(.t 12)], none⟩,
      ⟨(some 14), .ld (.t 1) 6 true, none⟩,
      ⟨(some 15), .call 10 [(.t 14)], none⟩,
      ⟨(some 16), .bin .eql (.t 13) (.t 15), none⟩,
      ⟨(some 17), .mv (.t 16), none⟩,
      ⟨(some 18), .mv (.t 3), (some (17, true))⟩,
      ⟨(some 19), .ld (.t 1) 6 true, (some (17, true))⟩,
      ⟨(some 20), .bs .im 24 6 [(.t 19)], (some (17, true))⟩,
      ⟨(some 21), .call 11 [(.t 18), (.t 20), (.c (.d (.v (.bool true))))], (some (17, true))⟩,
      ⟨(some 22), .pick (.t 17) (.t 21) (.c (.d (.v (.bool false)))), none⟩,
      ⟨(some 23), .mv (.t 22), none⟩,
      ⟨(some 24), .call 7 [], (some (23, true))⟩,
      ⟨(some 25), .pick (.t 23) (.t 24) (.c (.d (.v (.bool false)))), none⟩,
      ⟨(some 2), .mv (.t 25), none⟩])
  (.ret))))
def r3 : List RC := [.t 2]

def c4l0 : AC :=
  .seq (.seq (.reg [⟨(some 16), .mv (.t 4), none⟩,
          ⟨(some 17), .fa (.t 1) 4, none⟩,
          ⟨(some 18), .ld (.t 17) 1 false, none⟩,
          ⟨(some 19), .len false (.t 18), none⟩,
          ⟨(some 20), .bin .lss (.t 16) (.t 19), none⟩])
      (.cond (.t 20) (.skip) (.exit 0)))
     (.seq (.block 1 (.seq (.reg [⟨(some 23), .fa (.t 1) 4, none⟩,
           ⟨(some 24), .ld (.t 23) 1 false, none⟩,
           ⟨(some 25), .mv (.t 4), none⟩,
           ⟨(some 26), .mv (.t 4), none⟩,
           ⟨(some 27), .bin .add (.t 26) (.c (.d (.v (.int .i64 1)))), none⟩,
           ⟨(some 28), .sli false (.t 24) (some (.t 25)) (some (.t 27)) 6, none⟩,
           ⟨(some 29), .call 8 [(.t 28)], none⟩,
           ⟨(some 30), .ia (.t 29) (.c (.d (.v (.int .i64 0)))) 6, none⟩,
           ⟨(some 31), .ld (.t 30) 6 true, none⟩,
           ⟨(some 32), .call 9 [(.t 31)], none⟩,
           ⟨(some 5), .mv (.t 32), none⟩])
       (.seq (.reg [⟨(some 33), .mv (.t 5), none⟩,
           ⟨(some 34), .mv (.t 3), none⟩,
           ⟨(some 35), .bin .gtr (.t 33) (.t 34), none⟩])
       (.cond (.t 35) (.seq (.reg [⟨(some 2), .mv (.c (.d (.v (.bool false)))), none⟩])
        (.ret)) (.skip)))))
     (.reg [⟨(some 21), .mv (.t 4), none⟩,
        ⟨(some 22), .bin .add (.t 21) (.c (.d (.v (.int .i64 1)))), none⟩,
        ⟨(some 4), .mv (.t 22), none⟩]))

/-- spinet/spinetlaw19.NeedParts -/
def c4 : AC :=
  .seq (.reg [⟨(some 1), .bx (.t 0), none⟩,
      ⟨(some 2), .mv (.c (.d (.v (.bool false)))), none⟩])
  (.seq (.seq (.reg [⟨(some 7), .ld (.t 1) 6 true, none⟩,
       ⟨(some 8), .call 6 [(.t 7)], none⟩])
   (.cond (.t 8) (.seq (.reg [⟨(some 9), .call 7 [], none⟩,
        ⟨(some 2), .mv (.t 9), none⟩])
    (.ret)) (.skip)))
  (.seq (.reg [⟨(some 10), .ld (.t 1) 6 true, none⟩,
      ⟨(some 11), .bs .im 24 6 [(.t 10)], none⟩,
      ⟨(some 12), .call 8 [(.t 11)], none⟩,
      ⟨(some 13), .ia (.t 12) (.c (.d (.v (.int .i64 0)))) 6, none⟩,
      ⟨(some 14), .ld (.t 13) 6 true, none⟩,
      ⟨(some 15), .call 9 [(.t 14)], none⟩,
      ⟨(some 3), .mv (.t 15), none⟩])
  (.seq (.seq (.reg [⟨(some 4), .mv (.c (.d (.v (.int .i64 0)))), none⟩])
   (.block 0 (.loop c4l0)))
  (.seq (.dreg [[], [], [1], [2, 0], [3], [4], [0, 5, 3], [6, 6], [7, 7, 0, 1, 2, 3, 4, 5, 6, 7]] [⟨(some 36), .call 13 [(.c (.d (.v (.string ⟨#[97]⟩))))], none⟩,
      ⟨(some 37), .ld (.t 1) 6 true, none⟩,
      ⟨(some 38), .bs .im 24 6 [(.t 37)], none⟩,
      ⟨(some 39), .call 8 [(.t 38)], none⟩,
      ⟨(some 40), .ia (.t 39) (.c (.d (.v (.int .i64 0)))) 6, none⟩,
      ⟨(some 41), .ld (.t 40) 6 true, none⟩,
      ⟨(some 42), .call 12 [(.t 36), (.t 41)], none⟩,
      ⟨(some 43), .call 9 [(.t 42)], none⟩,
      ⟨(some 6), .mv (.t 43), none⟩])
  (.seq (.reg [⟨(some 44), .mv (.t 3), none⟩,
      ⟨(some 45), .bin .geq (.t 44) (.c (.d (.v (.int .i64 1)))), none⟩,
      ⟨(some 46), .mv (.t 45), none⟩,
      ⟨(some 47), .mv (.t 6), (some (46, true))⟩,
      ⟨(some 48), .mv (.t 3), (some (46, true))⟩,
      ⟨(some 49), .bin .add (.t 48) (.c (.d (.v (.int .i64 1)))), (some (46, true))⟩,
      ⟨(some 50), .mx [(.c (.d (.v (.int .i64 2)))), (.t 49)], (some (46, true))⟩,
      ⟨(some 51), .mn [(.t 50), (.c (.d (.v (.int .i64 128))))], (some (46, true))⟩,
      ⟨(some 52), .bin .eql (.t 47) (.t 51), (some (46, true))⟩,
      ⟨(some 53), .pick (.t 46) (.t 52) (.c (.d (.v (.bool false)))), none⟩,
      ⟨(some 54), .mv (.t 53), none⟩,
      ⟨(some 55), .call 7 [], (some (54, true))⟩,
      ⟨(some 56), .pick (.t 54) (.t 55) (.c (.d (.v (.bool false)))), none⟩,
      ⟨(some 2), .mv (.t 56), none⟩])
  (.ret))))))
def r4 : List RC := [.t 2]

def c5l0 : AC :=
  .seq (.seq (.reg [⟨(some 15), .mv (.t 5), none⟩,
          ⟨(some 16), .mv (.t 0), none⟩,
          ⟨(some 17), .bin .lss (.t 15) (.t 16), none⟩])
      (.cond (.t 17) (.skip) (.exit 0)))
     (.seq (.block 1 (.dreg [[], [], [0, 1, 1], [2], [], [3, 4, 3], [2, 5, 0, 1, 2], [5, 6, 0, 1, 2, 3, 4, 5, 6]] [⟨(some 20), .ld (.t 3) 6 true, none⟩,
          ⟨(some 21), .call 13 [(.c (.d (.v (.string ⟨#[98]⟩))))], none⟩,
          ⟨(some 22), .call 12 [(.t 20), (.t 21)], none⟩,
          ⟨(some 23), .call 13 [(.c (.d (.v (.string ⟨#[98]⟩))))], none⟩,
          ⟨(some 24), .ld (.t 4) 6 true, none⟩,
          ⟨(some 25), .call 12 [(.t 23), (.t 24)], none⟩,
          ⟨none, .st (.t 3) (.t 22) 6, none⟩,
          ⟨none, .st (.t 4) (.t 25) 6, none⟩]))
     (.reg [⟨(some 18), .mv (.t 5), none⟩,
        ⟨(some 19), .bin .add (.t 18) (.c (.d (.v (.int .i64 1)))), none⟩,
        ⟨(some 5), .mv (.t 19), none⟩]))

/-- spinet/spinetlaw19.NeedRows -/
def c5 : AC :=
  .seq (.reg [⟨(some 2), .mv (.c (.d (.v (.bool false)))), none⟩])
  (.seq (.seq (.reg [⟨(some 6), .mv (.t 0), none⟩,
       ⟨(some 7), .bin .lss (.t 6) (.c (.d (.v (.int .i64 1)))), none⟩,
       ⟨(some 8), .mv (.t 7), none⟩,
       ⟨(some 9), .mv (.t 0), (some (8, false))⟩,
       ⟨(some 10), .bin .gtr (.t 9) (.c (.d (.v (.int .i64 200)))), (some (8, false))⟩,
       ⟨(some 11), .pick (.t 8) (.c (.d (.v (.bool true)))) (.t 10), none⟩])
   (.cond (.t 11) (.seq (.reg [⟨(some 12), .call 7 [], none⟩,
        ⟨(some 2), .mv (.t 12), none⟩])
    (.ret)) (.skip)))
  (.seq (.reg [⟨(some 13), .call 13 [(.c (.d (.v (.string ⟨#[97]⟩))))], none⟩,
      ⟨(some 14), .call 13 [(.c (.d (.v (.string ⟨#[97]⟩))))], none⟩,
      ⟨(some 3), .al [(.d (.v (.int .i64 0))), (.d (.v (.int .i64 0))), (.d (.v (.string ⟨#[]⟩))), (.d (.v (.string ⟨#[]⟩))), .esl, (.d (.v (.int .i64 0)))], none⟩,
      ⟨(some 4), .al [(.d (.v (.int .i64 0))), (.d (.v (.int .i64 0))), (.d (.v (.string ⟨#[]⟩))), (.d (.v (.string ⟨#[]⟩))), .esl, (.d (.v (.int .i64 0)))], none⟩,
      ⟨none, .st (.t 3) (.t 13) 6, none⟩,
      ⟨none, .st (.t 4) (.t 14) 6, none⟩])
  (.seq (.seq (.reg [⟨(some 5), .mv (.c (.d (.v (.int .i64 0)))), none⟩])
   (.block 0 (.loop c5l0)))
  (.seq (.reg [⟨(some 26), .ld (.t 3) 6 true, none⟩,
      ⟨(some 27), .call 9 [(.t 26)], none⟩,
      ⟨(some 28), .bin .eql (.t 27) (.c (.d (.v (.int .i64 2)))), none⟩,
      ⟨(some 29), .mv (.t 28), none⟩,
      ⟨(some 30), .ld (.t 4) 6 true, (some (29, true))⟩,
      ⟨(some 31), .call 9 [(.t 30)], (some (29, true))⟩,
      ⟨(some 32), .mv (.t 0), (some (29, true))⟩,
      ⟨(some 33), .bin .add (.t 32) (.c (.d (.v (.int .i64 1)))), (some (29, true))⟩,
      ⟨(some 34), .mn [(.t 33), (.c (.d (.v (.int .i64 128))))], (some (29, true))⟩,
      ⟨(some 35), .bin .eql (.t 31) (.t 34), (some (29, true))⟩,
      ⟨(some 36), .pick (.t 29) (.t 35) (.c (.d (.v (.bool false)))), none⟩,
      ⟨(some 37), .mv (.t 36), none⟩,
      ⟨(some 38), .call 7 [], (some (37, true))⟩,
      ⟨(some 39), .pick (.t 37) (.t 38) (.c (.d (.v (.bool false)))), none⟩,
      ⟨(some 2), .mv (.t 39), none⟩])
  (.ret)))))
def r5 : List RC := [.t 2]

/-- spinet/spinetlaw10.LargeExpr -/
def c6 : AC :=
  .seq (.reg [⟨(some 1), .bx (.t 0), none⟩,
      ⟨(some 2), .mv (.c (.d (.v (.bool false)))), none⟩])
  (.seq (.reg [⟨(some 4), .bd [(.d (.v (.int .i64 0)))] [], none⟩,
      ⟨(some 5), .bx (.t 4), none⟩,
      ⟨(some 3), .mv (.t 5), none⟩])
  (.seq (.reg [⟨(some 6), .mv (.t 3), none⟩,
      ⟨(some 7), .ld (.t 1) 6 true, none⟩,
      ⟨(some 8), .bs .im 24 6 [(.t 7)], none⟩,
      ⟨(some 9), .call 14 [(.t 6), (.t 8), (.c (.d (.v (.int .i64 1))))], none⟩,
      ⟨(some 10), .un .not (.t 9), none⟩,
      ⟨(some 2), .mv (.t 10), none⟩])
  (.ret)))
def r6 : List RC := [.t 2]

/-- spinet/spinetlaw19.wakes -/
def c7 : AC :=
  .seq (.reg [⟨(some 0), .mv (.c (.d (.v (.bool false)))), none⟩])
  (.seq (.reg [⟨(some 1), .call 13 [(.c (.d (.v (.string ⟨#[97]⟩))))], none⟩,
      ⟨(some 2), .call 13 [(.c (.d (.v (.string ⟨#[98]⟩))))], none⟩,
      ⟨(some 3), .call 13 [(.c (.d (.v (.string ⟨#[99]⟩))))], none⟩,
      ⟨(some 4), .call 12 [(.t 2), (.t 3)], none⟩,
      ⟨(some 5), .call 12 [(.t 1), (.t 4)], none⟩,
      ⟨(some 6), .call 9 [(.t 5)], none⟩,
      ⟨(some 7), .bin .eql (.t 6) (.c (.d (.v (.int .i64 3)))), none⟩,
      ⟨(some 8), .mv (.t 7), none⟩,
      ⟨(some 9), .call 13 [(.c (.d (.v (.string ⟨#[97]⟩))))], (some (8, true))⟩,
      ⟨(some 10), .call 13 [(.c (.d (.v (.string ⟨#[98]⟩))))], (some (8, true))⟩,
      ⟨(some 11), .call 12 [(.t 9), (.t 10)], (some (8, true))⟩,
      ⟨(some 12), .call 13 [(.c (.d (.v (.string ⟨#[99]⟩))))], (some (8, true))⟩,
      ⟨(some 13), .call 12 [(.t 11), (.t 12)], (some (8, true))⟩,
      ⟨(some 14), .call 9 [(.t 13)], (some (8, true))⟩,
      ⟨(some 15), .bin .eql (.t 14) (.c (.d (.v (.int .i64 2)))), (some (8, true))⟩,
      ⟨(some 16), .pick (.t 8) (.t 15) (.c (.d (.v (.bool false)))), none⟩,
      ⟨(some 17), .mv (.t 16), none⟩,
      ⟨(some 18), .call 13 [(.c (.d (.v (.string ⟨#[102]⟩))))], (some (17, true))⟩,
      ⟨(some 19), .call 13 [(.c (.d (.v (.string ⟨#[97]⟩))))], (some (17, true))⟩,
      ⟨(some 20), .call 13 [(.c (.d (.v (.string ⟨#[98]⟩))))], (some (17, true))⟩,
      ⟨(some 21), .call 12 [(.t 19), (.t 20)], (some (17, true))⟩,
      ⟨(some 22), .bs .im 24 6 [(.t 18), (.t 21)], (some (17, true))⟩,
      ⟨(some 23), .bd [(.d (.v (.int .i64 0))), (.d (.v (.int .i64 0))), (.d (.v (.string ⟨#[]⟩))), (.d (.v (.string ⟨#[]⟩))), .esl, (.d (.v (.int .i64 0)))] [(0, 1, (.c (.d (.v (.int .i64 12))))), (4, 1, (.t 22))], (some (17, true))⟩,
      ⟨(some 24), .call 9 [(.t 23)], (some (17, true))⟩,
      ⟨(some 25), .bin .eql (.t 24) (.c (.d (.v (.int .i64 2)))), (some (17, true))⟩,
      ⟨(some 26), .pick (.t 17) (.t 25) (.c (.d (.v (.bool false)))), none⟩,
      ⟨(some 0), .mv (.t 26), none⟩])
  (.ret))
def r7 : List RC := [.t 0]

def c8l0 : AC :=
  .seq (.seq (.reg [⟨(some 6), .mv (.t 4), none⟩,
          ⟨(some 7), .mv (.t 0), none⟩,
          ⟨(some 8), .len false (.t 7), none⟩,
          ⟨(some 9), .bin .lss (.t 6) (.t 8), none⟩])
      (.cond (.t 9) (.skip) (.exit 0)))
     (.seq (.block 1 (.seq (.reg [⟨(some 12), .mv (.t 0), none⟩,
           ⟨(some 13), .mv (.t 4), none⟩,
           ⟨(some 14), .ia (.t 12) (.t 13) 6, none⟩,
           ⟨(some 15), .ld (.t 14) 6 true, none⟩,
           ⟨(some 5), .al [(.d (.v (.int .i64 0))), (.d (.v (.int .i64 0))), (.d (.v (.string ⟨#[]⟩))), (.d (.v (.string ⟨#[]⟩))), .esl, (.d (.v (.int .i64 0)))], none⟩,
           ⟨none, .st (.t 5) (.t 15) 6, none⟩])
       (.seq (.reg [⟨(some 16), .fa (.t 5) 4, none⟩,
           ⟨(some 17), .ld (.t 16) 1 false, none⟩,
           ⟨(some 18), .call 8 [(.t 17)], none⟩,
           ⟨(some 19), .fa (.t 5) 4, none⟩,
           ⟨none, .st (.t 19) (.t 18) 1, none⟩])
       (.reg [⟨(some 20), .mv (.t 3), none⟩,
          ⟨(some 21), .ld (.t 5) 6 true, none⟩,
          ⟨(some 22), .bs .im 24 6 [(.t 21)], none⟩,
          ⟨(some 23), .app .gr 24 6 80 (.t 20) (.t 22), none⟩,
          ⟨(some 3), .mvg 24 6 (.t 23), none⟩]))))
     (.reg [⟨(some 10), .mv (.t 4), none⟩,
        ⟨(some 11), .bin .add (.t 10) (.c (.d (.v (.int .i64 1)))), none⟩,
        ⟨(some 4), .mv (.t 11), none⟩]))

/-- spinet/spinetref10.CopyExprs -/
def c8 : AC :=
  .seq (.reg [⟨(some 2), .mv (.c .esl), none⟩])
  (.seq (.reg [⟨(some 3), .mvg 24 6 (.c .esl), none⟩])
  (.seq (.seq (.reg [⟨(some 4), .mv (.c (.d (.v (.int .i64 0)))), none⟩])
   (.block 0 (.loop c8l0)))
  (.seq (.reg [⟨(some 24), .mv (.t 3), none⟩,
      ⟨(some 2), .mv (.t 24), none⟩])
  (.ret))))
def r8 : List RC := [.t 2]

def c9l0 : AC :=
  .seq (.reg [⟨(some 10), .bin .lss (.t 9) (.t 8), none⟩])
     (.seq (.cond (.t 10) (.skip) (.exit 0))
     (.seq (.block 1 (.seq (.reg [⟨(some 11), .mv (.t 9), none⟩,
           ⟨(some 4), .mv (.t 11), none⟩])
       (.seq (.reg [⟨(some 12), .fa (.t 1) 4, none⟩,
           ⟨(some 13), .ld (.t 12) 1 false, none⟩,
           ⟨(some 14), .mv (.t 4), none⟩,
           ⟨(some 15), .ia (.t 13) (.t 14) 6, none⟩,
           ⟨(some 16), .ld (.t 15) 6 true, none⟩,
           ⟨(some 17), .call 9 [(.t 16)], none⟩,
           ⟨(some 18), .mv (.t 4), none⟩,
           ⟨(some 19), .bin .add (.t 17) (.t 18), none⟩,
           ⟨(some 5), .mv (.t 19), none⟩])
       (.seq (.seq (.reg [⟨(some 20), .fa (.t 1) 0, none⟩,
            ⟨(some 21), .ld (.t 20) 1 false, none⟩,
            ⟨(some 22), .bin .eql (.t 21) (.c (.d (.v (.int .i64 12)))), none⟩,
            ⟨(some 23), .mv (.t 22), none⟩,
            ⟨(some 24), .mv (.t 4), (some (23, true))⟩,
            ⟨(some 25), .bin .gtr (.t 24) (.c (.d (.v (.int .i64 0)))), (some (23, true))⟩,
            ⟨(some 26), .pick (.t 23) (.t 25) (.c (.d (.v (.bool false)))), none⟩])
        (.cond (.t 26) (.reg [⟨(some 27), .mv (.t 5), none⟩,
            ⟨(some 28), .mv (.t 4), none⟩,
            ⟨(some 29), .bin .sub (.t 27) (.t 28), none⟩,
            ⟨(some 30), .mx [(.c (.d (.v (.int .i64 2)))), (.t 29)], none⟩,
            ⟨(some 5), .mv (.t 30), none⟩]) (.skip)))
       (.reg [⟨(some 31), .mv (.t 3), none⟩,
          ⟨(some 32), .mv (.t 5), none⟩,
          ⟨(some 33), .mx [(.t 31), (.t 32)], none⟩,
          ⟨(some 3), .mv (.t 33), none⟩])))))
     (.reg [⟨(some 34), .bin .add (.t 9) (.c (.d (.v (.int .i64 1)))), none⟩,
        ⟨(some 9), .mv (.t 34), none⟩])))

/-- spinet/need.Need -/
def c9 : AC :=
  .seq (.reg [⟨(some 1), .bx (.t 0), none⟩,
      ⟨(some 2), .mv (.c (.d (.v (.int .i64 0)))), none⟩])
  (.seq (.reg [⟨(some 3), .mv (.c (.d (.v (.int .i64 1)))), none⟩])
  (.seq (.seq (.reg [⟨(some 6), .fa (.t 1) 4, none⟩,
       ⟨(some 7), .ld (.t 6) 1 false, none⟩,
       ⟨(some 8), .len false (.t 7), none⟩,
       ⟨(some 9), .mv (.c (.d (.v (.int .i64 0)))), none⟩])
   (.block 0 (.loop c9l0)))
  (.seq (.reg [⟨(some 35), .mv (.t 3), none⟩,
      ⟨(some 36), .mn [(.t 35), (.c (.d (.v (.int .i64 128))))], none⟩,
      ⟨(some 2), .mv (.t 36), none⟩])
  (.ret))))
def r9 : List RC := [.t 2]

def c10l0 : AC :=
  .seq (.seq (.reg [⟨(some 6), .mv (.t 4), none⟩,
          ⟨(some 7), .fa (.t 1) 4, none⟩,
          ⟨(some 8), .ld (.t 7) 1 false, none⟩,
          ⟨(some 9), .len false (.t 8), none⟩,
          ⟨(some 10), .bin .lss (.t 6) (.t 9), none⟩])
      (.cond (.t 10) (.skip) (.exit 0)))
     (.seq (.block 1 (.seq (.reg [⟨(some 13), .fa (.t 1) 4, none⟩,
           ⟨(some 14), .ld (.t 13) 1 false, none⟩,
           ⟨(some 15), .mv (.t 4), none⟩,
           ⟨(some 16), .ia (.t 14) (.t 15) 6, none⟩,
           ⟨(some 17), .ld (.t 16) 6 true, none⟩,
           ⟨(some 18), .call 10 [(.t 17)], none⟩,
           ⟨(some 5), .mv (.t 18), none⟩])
       (.seq (.seq (.reg [⟨(some 19), .fa (.t 1) 0, none⟩,
            ⟨(some 20), .ld (.t 19) 1 false, none⟩,
            ⟨(some 21), .bin .eql (.t 20) (.c (.d (.v (.int .i64 12)))), none⟩,
            ⟨(some 22), .mv (.t 21), none⟩,
            ⟨(some 23), .mv (.t 4), (some (22, true))⟩,
            ⟨(some 24), .bin .gtr (.t 23) (.c (.d (.v (.int .i64 0)))), (some (22, true))⟩,
            ⟨(some 25), .pick (.t 22) (.t 24) (.c (.d (.v (.bool false)))), none⟩])
        (.cond (.t 25) (.reg [⟨(some 26), .mv (.t 5), none⟩,
            ⟨(some 27), .mx [(.c (.d (.v (.int .i64 2)))), (.t 26)], none⟩,
            ⟨(some 5), .mv (.t 27), none⟩]) (.reg [⟨(some 28), .mv (.t 5), none⟩,
            ⟨(some 29), .mv (.t 4), none⟩,
            ⟨(some 30), .bin .add (.t 28) (.t 29), none⟩,
            ⟨(some 5), .mv (.t 30), none⟩])))
       (.reg [⟨(some 31), .mv (.t 3), none⟩,
          ⟨(some 32), .mv (.t 5), none⟩,
          ⟨(some 33), .mx [(.t 31), (.t 32)], none⟩,
          ⟨(some 3), .mv (.t 33), none⟩]))))
     (.reg [⟨(some 11), .mv (.t 4), none⟩,
        ⟨(some 12), .bin .add (.t 11) (.c (.d (.v (.int .i64 1)))), none⟩,
        ⟨(some 4), .mv (.t 12), none⟩]))

/-- spinet/spinetref19.Need -/
def c10 : AC :=
  .seq (.reg [⟨(some 1), .bx (.t 0), none⟩,
      ⟨(some 2), .mv (.c (.d (.v (.int .i64 0)))), none⟩])
  (.seq (.reg [⟨(some 3), .mv (.c (.d (.v (.int .i64 1)))), none⟩])
  (.seq (.seq (.reg [⟨(some 4), .mv (.c (.d (.v (.int .i64 0)))), none⟩])
   (.block 0 (.loop c10l0)))
  (.seq (.reg [⟨(some 34), .mv (.t 3), none⟩,
      ⟨(some 35), .mn [(.t 34), (.c (.d (.v (.int .i64 128))))], none⟩,
      ⟨(some 2), .mv (.t 35), none⟩])
  (.ret))))
def r10 : List RC := [.t 2]

def c11l0 : AC :=
  .seq (.seq (.reg [⟨(some 15), .mv (.t 7), none⟩,
          ⟨(some 16), .mv (.t 0), none⟩,
          ⟨(some 17), .len false (.t 16), none⟩,
          ⟨(some 18), .bin .lss (.t 15) (.t 17), none⟩])
      (.cond (.t 18) (.skip) (.exit 0)))
     (.seq (.block 1 (.seq (.dreg [[], [], [0, 1], [2], [], [], [4, 5], [6], [], [], [8, 3, 0, 1, 2, 3, 8, 9], [9, 7, 10, 0, 1, 2, 3, 4, 5, 6, 7, 8, 9, 10]] [⟨(some 21), .mv (.t 0), none⟩,
           ⟨(some 22), .mv (.t 7), none⟩,
           ⟨(some 23), .ia (.t 21) (.t 22) 6, none⟩,
           ⟨(some 24), .ld (.t 23) 6 true, none⟩,
           ⟨(some 25), .mv (.t 1), none⟩,
           ⟨(some 26), .mv (.t 7), none⟩,
           ⟨(some 27), .ia (.t 25) (.t 26) 6, none⟩,
           ⟨(some 28), .ld (.t 27) 6 true, none⟩,
           ⟨(some 8), .al [(.d (.v (.int .i64 0))), (.d (.v (.int .i64 0))), (.d (.v (.string ⟨#[]⟩))), (.d (.v (.string ⟨#[]⟩))), .esl, (.d (.v (.int .i64 0)))], none⟩,
           ⟨(some 9), .al [(.d (.v (.int .i64 0))), (.d (.v (.int .i64 0))), (.d (.v (.string ⟨#[]⟩))), (.d (.v (.string ⟨#[]⟩))), .esl, (.d (.v (.int .i64 0)))], none⟩,
           ⟨none, .st (.t 8) (.t 24) 6, none⟩,
           ⟨none, .st (.t 9) (.t 28) 6, none⟩])
       (.seq (.reg [⟨(some 29), .fa (.t 8) 0, none⟩,
           ⟨(some 30), .ld (.t 29) 1 false, none⟩,
           ⟨(some 31), .fa (.t 9) 0, none⟩,
           ⟨(some 32), .ld (.t 31) 1 false, none⟩,
           ⟨(some 33), .bin .neq (.t 30) (.t 32), none⟩,
           ⟨(some 34), .mv (.t 33), none⟩,
           ⟨(some 35), .fa (.t 8) 1, (some (34, false))⟩,
           ⟨(some 36), .ld (.t 35) 1 false, (some (34, false))⟩,
           ⟨(some 37), .fa (.t 9) 1, (some (34, false))⟩,
           ⟨(some 38), .ld (.t 37) 1 false, (some (34, false))⟩,
           ⟨(some 39), .bin .neq (.t 36) (.t 38), (some (34, false))⟩,
           ⟨(some 40), .pick (.t 34) (.c (.d (.v (.bool true)))) (.t 39), none⟩,
           ⟨(some 41), .mv (.t 40), none⟩,
           ⟨(some 42), .fa (.t 8) 2, (some (41, false))⟩,
           ⟨(some 43), .ld (.t 42) 1 false, (some (41, false))⟩,
           ⟨(some 44), .fa (.t 9) 2, (some (41, false))⟩,
           ⟨(some 45), .ld (.t 44) 1 false, (some (41, false))⟩,
           ⟨(some 46), .bin .neq (.t 43) (.t 45), (some (41, false))⟩,
           ⟨(some 47), .pick (.t 41) (.c (.d (.v (.bool true)))) (.t 46), none⟩,
           ⟨(some 48), .mv (.t 47), none⟩,
           ⟨(some 49), .fa (.t 8) 3, (some (48, false))⟩,
           ⟨(some 50), .ld (.t 49) 1 false, (some (48, false))⟩,
           ⟨(some 51), .fa (.t 9) 3, (some (48, false))⟩,
           ⟨(some 52), .ld (.t 51) 1 false, (some (48, false))⟩,
           ⟨(some 53), .bin .neq (.t 50) (.t 52), (some (48, false))⟩,
           ⟨(some 54), .pick (.t 48) (.c (.d (.v (.bool true)))) (.t 53), none⟩,
           ⟨(some 55), .mv (.t 54), none⟩,
           ⟨(some 56), .mv (.t 2), (some (55, false))⟩,
           ⟨(some 57), .mv (.t 56), (some (55, false))⟩,
           ⟨(some 58), .fa (.t 8) 5, (some (57, true))⟩,
           ⟨(some 59), .ld (.t 58) 1 false, (some (57, true))⟩,
           ⟨(some 60), .fa (.t 9) 5, (some (57, true))⟩,
           ⟨(some 61), .ld (.t 60) 1 false, (some (57, true))⟩,
           ⟨(some 62), .bin .neq (.t 59) (.t 61), (some (57, true))⟩,
           ⟨(some 63), .pick (.t 57) (.t 62) (.c (.d (.v (.bool false)))), (some (55, false))⟩,
           ⟨(some 64), .pick (.t 55) (.c (.d (.v (.bool true)))) (.t 63), none⟩,
           ⟨(some 65), .mv (.t 64), none⟩,
           ⟨(some 66), .fa (.t 8) 4, (some (65, false))⟩,
           ⟨(some 67), .ld (.t 66) 1 false, (some (65, false))⟩,
           ⟨(some 68), .fa (.t 9) 4, (some (65, false))⟩,
           ⟨(some 69), .ld (.t 68) 1 false, (some (65, false))⟩,
           ⟨(some 70), .mv (.t 2), (some (65, false))⟩,
           ⟨(some 71), .call 11 [(.t 67), (.t 69), (.t 70)], (some (65, false))⟩,
           ⟨(some 72), .un .not (.t 71), (some (65, false))⟩,
           ⟨(some 73), .pick (.t 65) (.c (.d (.v (.bool true)))) (.t 72), none⟩])
       (.cond (.t 73) (.seq (.reg [⟨(some 6), .mv (.c (.d (.v (.bool false)))), none⟩])
        (.ret)) (.skip)))))
     (.reg [⟨(some 19), .mv (.t 7), none⟩,
        ⟨(some 20), .bin .add (.t 19) (.c (.d (.v (.int .i64 1)))), none⟩,
        ⟨(some 7), .mv (.t 20), none⟩]))

/-- spinet/spinetref10.SameExprs -/
def c11 : AC :=
  .seq (.reg [⟨(some 6), .mv (.c (.d (.v (.bool false)))), none⟩])
  (.seq (.seq (.reg [⟨(some 10), .mv (.t 0), none⟩,
       ⟨(some 11), .len false (.t 10), none⟩,
       ⟨(some 12), .mv (.t 1), none⟩,
       ⟨(some 13), .len false (.t 12), none⟩,
       ⟨(some 14), .bin .neq (.t 11) (.t 13), none⟩])
   (.cond (.t 14) (.seq (.reg [⟨(some 6), .mv (.c (.d (.v (.bool false)))), none⟩])
    (.ret)) (.skip)))
  (.seq (.seq (.reg [⟨(some 7), .mv (.c (.d (.v (.int .i64 0)))), none⟩])
   (.block 0 (.loop c11l0)))
  (.seq (.reg [⟨(some 6), .mv (.c (.d (.v (.bool true)))), none⟩])
  (.ret))))
def r11 : List RC := [.t 6]

/-- spinet/spinetlaw19.two -/
def c12 : AC :=
  .seq (.reg [⟨(some 2), .bx (.t 0), none⟩,
      ⟨(some 3), .bx (.t 1), none⟩,
      ⟨(some 4), .al [(.d (.v (.int .i64 0))), (.d (.v (.int .i64 0))), (.d (.v (.string ⟨#[]⟩))), (.d (.v (.string ⟨#[]⟩))), .esl, (.d (.v (.int .i64 0)))], none⟩])
  (.seq (.reg [⟨(some 5), .ld (.t 2) 6 true, none⟩,
      ⟨(some 6), .ld (.t 3) 6 true, none⟩,
      ⟨(some 7), .bs .im 24 6 [(.t 5), (.t 6)], none⟩,
      ⟨(some 8), .bd [(.d (.v (.int .i64 0))), (.d (.v (.int .i64 0))), (.d (.v (.string ⟨#[]⟩))), (.d (.v (.string ⟨#[]⟩))), .esl, (.d (.v (.int .i64 0)))] [(0, 1, (.c (.d (.v (.int .i64 14))))), (3, 1, (.c (.d (.v (.string ⟨#[43]⟩))))), (4, 1, (.t 7))], none⟩,
      ⟨none, .st (.t 4) (.t 8) 6, none⟩])
  (.ret))
def r12 : List RC := [.c 4 6 true]

/-- spinet/spinetlaw19.name -/
def c13 : AC :=
  .seq (.reg [⟨(some 2), .al [(.d (.v (.int .i64 0))), (.d (.v (.int .i64 0))), (.d (.v (.string ⟨#[]⟩))), (.d (.v (.string ⟨#[]⟩))), .esl, (.d (.v (.int .i64 0)))], none⟩])
  (.seq (.reg [⟨(some 3), .mv (.t 0), none⟩,
      ⟨(some 4), .bd [(.d (.v (.int .i64 0))), (.d (.v (.int .i64 0))), (.d (.v (.string ⟨#[]⟩))), (.d (.v (.string ⟨#[]⟩))), .esl, (.d (.v (.int .i64 0)))] [(0, 1, (.c (.d (.v (.int .i64 8))))), (2, 1, (.t 3))], none⟩,
      ⟨none, .st (.t 2) (.t 4) 6, none⟩])
  (.ret))
def r13 : List RC := [.c 2 6 true]

def c14l0 : AC :=
  .seq (.seq (.reg [⟨(some 16), .mv (.t 7), none⟩,
          ⟨(some 17), .mv (.t 1), none⟩,
          ⟨(some 18), .len false (.t 17), none⟩,
          ⟨(some 19), .bin .lss (.t 16) (.t 18), none⟩])
      (.cond (.t 19) (.skip) (.exit 0)))
     (.seq (.block 1 (.seq (.reg [⟨(some 22), .mv (.t 0), none⟩,
           ⟨(some 23), .mv (.t 2), none⟩,
           ⟨(some 24), .call 15 [(.t 22), (.c (.d (.v (.int .i64 1)))), (.t 23)], none⟩,
           ⟨(some 25), .un .not (.t 24), none⟩,
           ⟨(some 26), .mv (.t 25), none⟩,
           ⟨(some 27), .mv (.t 1), (some (26, false))⟩,
           ⟨(some 28), .mv (.t 7), (some (26, false))⟩,
           ⟨(some 29), .ia (.t 27) (.t 28) 6, (some (26, false))⟩,
           ⟨(some 30), .fa (.t 29) 4, (some (26, false))⟩,
           ⟨(some 31), .ld (.t 30) 1 false, (some (26, false))⟩,
           ⟨(some 32), .len false (.t 31), (some (26, false))⟩,
           ⟨(some 33), .bin .gtr (.t 32) (.c (.d (.v (.int .i64 0)))), (some (26, false))⟩,
           ⟨(some 34), .mv (.t 33), (some (26, false))⟩,
           ⟨(some 35), .mv (.t 0), (some (34, true))⟩,
           ⟨(some 36), .mv (.t 1), (some (34, true))⟩,
           ⟨(some 37), .mv (.t 7), (some (34, true))⟩,
           ⟨(some 38), .ia (.t 36) (.t 37) 6, (some (34, true))⟩,
           ⟨(some 39), .fa (.t 38) 4, (some (34, true))⟩,
           ⟨(some 40), .ld (.t 39) 1 false, (some (34, true))⟩,
           ⟨(some 41), .mv (.t 2), (some (34, true))⟩,
           ⟨(some 42), .bin .add (.t 41) (.c (.d (.v (.int .i64 1)))), (some (34, true))⟩,
           ⟨(some 43), .call 14 [(.t 35), (.t 40), (.t 42)], (some (34, true))⟩,
           ⟨(some 44), .un .not (.t 43), (some (34, true))⟩,
           ⟨(some 45), .pick (.t 34) (.t 44) (.c (.d (.v (.bool false)))), (some (26, false))⟩,
           ⟨(some 46), .pick (.t 26) (.c (.d (.v (.bool true)))) (.t 45), none⟩])
       (.cond (.t 46) (.seq (.reg [⟨(some 6), .mv (.c (.d (.v (.bool false)))), none⟩])
        (.ret)) (.skip))))
     (.reg [⟨(some 20), .mv (.t 7), none⟩,
        ⟨(some 21), .bin .add (.t 20) (.c (.d (.v (.int .i64 1)))), none⟩,
        ⟨(some 7), .mv (.t 21), none⟩]))

/-- (*spinet/spinetlaw10.scale).exprs -/
def c14 : AC :=
  .seq (.reg [⟨(some 6), .mv (.c (.d (.v (.bool false)))), none⟩])
  (.seq (.seq (.reg [⟨(some 8), .mv (.t 0), none⟩,
       ⟨(some 9), .mv (.t 1), none⟩,
       ⟨(some 10), .len false (.t 9), none⟩,
       ⟨(some 11), .bin .quo (.t 10) (.c (.d (.v (.int .i64 5)))), none⟩,
       ⟨(some 12), .bin .add (.c (.d (.v (.int .i64 1)))) (.t 11), none⟩,
       ⟨(some 13), .mv (.t 2), none⟩,
       ⟨(some 14), .call 15 [(.t 8), (.t 12), (.t 13)], none⟩,
       ⟨(some 15), .un .not (.t 14), none⟩])
   (.cond (.t 15) (.seq (.reg [⟨(some 6), .mv (.c (.d (.v (.bool false)))), none⟩])
    (.ret)) (.skip)))
  (.seq (.seq (.reg [⟨(some 7), .mv (.c (.d (.v (.int .i64 0)))), none⟩])
   (.block 0 (.loop c14l0)))
  (.seq (.reg [⟨(some 6), .mv (.c (.d (.v (.bool true)))), none⟩])
  (.ret))))
def r14 : List RC := [.t 6]

/-- (*spinet/spinetlaw10.scale).add -/
def c15 : AC :=
  .seq (.reg [⟨(some 6), .mv (.c (.d (.v (.bool false)))), none⟩])
  (.seq (.reg [⟨(some 7), .mv (.t 0), none⟩,
      ⟨(some 8), .nc (.t 7), none⟩,
      ⟨(some 9), .fa (.t 8) 0, none⟩,
      ⟨(some 10), .ld (.t 9) 1 false, none⟩,
      ⟨(some 11), .mv (.t 1), none⟩,
      ⟨(some 12), .bin .add (.t 10) (.t 11), none⟩,
      ⟨(some 13), .nc (.t 7), none⟩,
      ⟨(some 14), .fa (.t 13) 0, none⟩,
      ⟨none, .st (.t 14) (.t 12) 1, none⟩])
  (.seq (.reg [⟨(some 15), .mv (.t 0), none⟩,
      ⟨(some 16), .nc (.t 15), none⟩,
      ⟨(some 17), .fa (.t 16) 0, none⟩,
      ⟨(some 18), .ld (.t 17) 1 false, none⟩,
      ⟨(some 19), .bin .leq (.t 18) (.c (.d (.v (.int .i64 9000)))), none⟩,
      ⟨(some 20), .mv (.t 19), none⟩,
      ⟨(some 21), .mv (.t 2), (some (20, true))⟩,
      ⟨(some 22), .bin .leq (.t 21) (.c (.d (.v (.int .i64 300)))), (some (20, true))⟩,
      ⟨(some 23), .pick (.t 20) (.t 22) (.c (.d (.v (.bool false)))), none⟩,
      ⟨(some 6), .mv (.t 23), none⟩])
  (.ret)))
def r15 : List RC := [.t 6]

theorem cc3 : Try.f3.body.bind (comp Try.prog (hh 3)) = some c3 := by kernel_rfl
theorem rr3 : resC Try.prog Try.f3 = some r3 := by kernel_rfl
theorem cc4 : Try.f4.body.bind (comp Try.prog (hh 4)) = some c4 := by kernel_rfl
theorem rr4 : resC Try.prog Try.f4 = some r4 := by kernel_rfl
theorem cc5 : Try.f5.body.bind (comp Try.prog (hh 5)) = some c5 := by kernel_rfl
theorem rr5 : resC Try.prog Try.f5 = some r5 := by kernel_rfl
theorem cc6 : Try.f6.body.bind (comp Try.prog (hh 6)) = some c6 := by kernel_rfl
theorem rr6 : resC Try.prog Try.f6 = some r6 := by kernel_rfl
theorem cc7 : Try.f7.body.bind (comp Try.prog (hh 7)) = some c7 := by kernel_rfl
theorem rr7 : resC Try.prog Try.f7 = some r7 := by kernel_rfl
theorem cc8 : Try.f8.body.bind (comp Try.prog (hh 8)) = some c8 := by kernel_rfl
theorem rr8 : resC Try.prog Try.f8 = some r8 := by kernel_rfl
theorem cc9 : Try.f9.body.bind (comp Try.prog (hh 9)) = some c9 := by kernel_rfl
theorem rr9 : resC Try.prog Try.f9 = some r9 := by kernel_rfl
theorem cc10 : Try.f10.body.bind (comp Try.prog (hh 10)) = some c10 := by kernel_rfl
theorem rr10 : resC Try.prog Try.f10 = some r10 := by kernel_rfl
theorem cc11 : Try.f11.body.bind (comp Try.prog (hh 11)) = some c11 := by kernel_rfl
theorem rr11 : resC Try.prog Try.f11 = some r11 := by kernel_rfl
theorem cc12 : Try.f12.body.bind (comp Try.prog (hh 12)) = some c12 := by kernel_rfl
theorem rr12 : resC Try.prog Try.f12 = some r12 := by kernel_rfl
theorem cc13 : Try.f13.body.bind (comp Try.prog (hh 13)) = some c13 := by kernel_rfl
theorem rr13 : resC Try.prog Try.f13 = some r13 := by kernel_rfl
theorem cc14 : Try.f14.body.bind (comp Try.prog (hh 14)) = some c14 := by kernel_rfl
theorem rr14 : resC Try.prog Try.f14 = some r14 := by kernel_rfl
theorem cc15 : Try.f15.body.bind (comp Try.prog (hh 15)) = some c15 := by kernel_rfl
theorem rr15 : resC Try.prog Try.f15 = some r15 := by kernel_rfl
end Go.Proofs.Ytpajelfgipdmhaa
