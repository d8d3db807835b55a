/-
  What the law leans on, one text behind the other (the rest).
  Conditions: each theorem's own.
-/
import Derived.Test.YteadcgmaailjlaaGreatDoorME9
set_option maxRecDepth 100000
set_option maxHeartbeats 16000000
