/- The reference of layer 18: its contract of Next lies in RefN18. -/
import Derived.Test.YtihlbhlagpmbjaaRefN18
